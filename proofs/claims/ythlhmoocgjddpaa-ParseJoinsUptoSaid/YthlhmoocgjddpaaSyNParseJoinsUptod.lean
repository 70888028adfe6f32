/- Texts of this work, joined: SyF9, PaT, PaU. -/
import Derived.Test.YthlhmoocgjddpaaSyNParseJoinsUptoc
set_option linter.unusedVariables false
set_option linter.unusedSimpArgs false
set_option maxRecDepth 100000
set_option maxHeartbeats 4000000
namespace Go.Proofs.Ythlhmoocgjddpaa.Sy
open Go Go.RowKit Go.Proofs.YthlhmoocgjddpaaW.PrintWords 
def parse_Text.post (G:Gd)  (r:ByteArray) (v:Value) (G':Gd) (Lr:List Ch):Prop:=G=G'∧v=.string r∧Lr=[]
def parse_writer_node.post (G:Gd) (b1:Nat) (A2:Option Addr) (c3:Nat) (A5:Option Addr) (c6:Nat) (a0_0:(List ByteArray)) (a1:S24) (r:(List ByteArray)) (v:Value) (G':Gd) (Lr:List Ch):Prop:=G=G'∧∃ (A_s0:Option Addr) (c_s0:Nat),v=.tuple #[]∧Lr=[Blk b1 [.slice A_s0 r.length c_s0] 46,Row Kd.string 9 (.slice A_s0 r.length c_s0) r]
def parse_writer_head.post (G:Gd) (b1:Nat) (A2:Option Addr) (c3:Nat) (A5:Option Addr) (c6:Nat) (a0_0:(List ByteArray)) (a1:S24) (r:(List ByteArray)) (v:Value) (G':Gd) (Lr:List Ch):Prop:=G=G'∧∃ (A_s0:Option Addr) (c_s0:Nat),v=.tuple #[]∧Lr=[Blk b1 [.slice A_s0 r.length c_s0] 46,Row Kd.string 9 (.slice A_s0 r.length c_s0) r]
def parse_writer_around.post (G:Gd) (b1:Nat) (A2:Option Addr) (c3:Nat) (A5:Option Addr) (c6:Nat) (A9:Option Addr) (c10:Nat) (a0_0:(List ByteArray)) (a1:ByteArray) (a2:S24) (a3:(List ByteArray)) (r:(List ByteArray)) (v:Value) (G':Gd) (Lr:List Ch):Prop:=G=G'∧∃ (A_s0:Option Addr) (c_s0:Nat),v=.tuple #[]∧Lr=[Blk b1 [.slice A_s0 r.length c_s0] 46,Row Kd.string 9 (.slice A_s0 r.length c_s0) r]
def parse_writer_typ.post (G:Gd) (b1:Nat) (A2:Option Addr) (c3:Nat) (A5:Option Addr) (c6:Nat) (a0_0:(List ByteArray)) (a1:S24) (r:(List ByteArray)) (v:Value) (G':Gd) (Lr:List Ch):Prop:=G=G'∧∃ (A_s0:Option Addr) (c_s0:Nat),v=.tuple #[]∧Lr=[Blk b1 [.slice A_s0 r.length c_s0] 46,Row Kd.string 9 (.slice A_s0 r.length c_s0) r]
def parse_writer_statement.post (G:Gd) (b1:Nat) (A2:Option Addr) (c3:Nat) (A5:Option Addr) (c6:Nat) (a0_0:(List ByteArray)) (a1:S24) (r:(List ByteArray)) (v:Value) (G':Gd) (Lr:List Ch):Prop:=G=G'∧∃ (A_s0:Option Addr) (c_s0:Nat),v=.tuple #[]∧Lr=[Blk b1 [.slice A_s0 r.length c_s0] 46,Row Kd.string 9 (.slice A_s0 r.length c_s0) r]
def parse_writer_expr.post (G:Gd) (b1:Nat) (A2:Option Addr) (c3:Nat) (A5:Option Addr) (c6:Nat) (a0_0:(List ByteArray)) (a1:S24) (r:(List ByteArray)) (v:Value) (G':Gd) (Lr:List Ch):Prop:=G=G'∧∃ (A_s0:Option Addr) (c_s0:Nat),v=.tuple #[]∧Lr=[Blk b1 [.slice A_s0 r.length c_s0] 46,Row Kd.string 9 (.slice A_s0 r.length c_s0) r]
def parse_writer_list.post (G:Gd) (b1:Nat) (A2:Option Addr) (c3:Nat) (A5:Option Addr) (c6:Nat) (a0_0:(List ByteArray)) (a1:(List S24)) (a2:ByteArray) (r:(List ByteArray)) (v:Value) (G':Gd) (Lr:List Ch):Prop:=G=G'∧∃ (A_s0:Option Addr) (c_s0:Nat),v=.tuple #[]∧Lr=[Blk b1 [.slice A_s0 r.length c_s0] 46,Row Kd.string 9 (.slice A_s0 r.length c_s0) r]
def parse_Text.l0 (rec9:(S24 → Option ByteArray)) (a0:S24):Nat → Int → ByteArray → Option (ByteArray)
 | 0,_,_=>none
 | n159 + 1,x117,x118=>(if x117 < (a0.f3.length:Int) then (at? a0.f3 x117).bind fun y218=>(rec9 y218).bind fun (y232:ByteArray)=>(if y232.size + (⟨#[10]⟩:ByteArray).size ≤ 9223372036854775807 then (if x118.size + (cat y232 (⟨#[10]⟩:ByteArray)).size ≤ 140737488355328 then parse_Text.l0 rec9 a0 n159 (IntKind.i64.wrap (x117 + 1)) (cat x118 (cat y232 (⟨#[10]⟩:ByteArray))) else none) else none) else some x118)
def parse_Text.g (rec9:(S24 → Option ByteArray)) (rec20:((List ByteArray) → S24 → Option (List ByteArray))) (rec33:((List ByteArray) → S24 → Option (List ByteArray))) (rec34:((List ByteArray) → ByteArray → S24 → (List ByteArray) → Option (List ByteArray))) (rec35:((List ByteArray) → S24 → Option (List ByteArray))) (rec36:((List ByteArray) → S24 → Option (List ByteArray))) (rec37:((List ByteArray) → S24 → Option (List ByteArray))) (rec50:((List ByteArray) → (List S24) → ByteArray → Option (List ByteArray))) (a0:S24):Option ByteArray:=(if (!decide (a0.f0=1))=true then (rec20 ([]:List ByteArray) a0).bind fun (y25:(List ByteArray))=>(strings_Join.f y25 (⟨#[32]⟩:ByteArray)).bind fun (y36:ByteArray)=>some y36 else (parse_Text.l0 rec9 a0 (a0.f3.length + 1) 0 (⟨#[]⟩:ByteArray)).bind fun (x157:ByteArray)=>some x157)
theorem parse_Text.step (rec9:(S24 → Option ByteArray)) (rec20:((List ByteArray) → S24 → Option (List ByteArray))) (rec33:((List ByteArray) → S24 → Option (List ByteArray))) (rec34:((List ByteArray) → ByteArray → S24 → (List ByteArray) → Option (List ByteArray))) (rec35:((List ByteArray) → S24 → Option (List ByteArray))) (rec36:((List ByteArray) → S24 → Option (List ByteArray))) (rec37:((List ByteArray) → S24 → Option (List ByteArray))) (rec50:((List ByteArray) → (List S24) → ByteArray → Option (List ByteArray))) (ih9:∀ {G:Gd} {r:ByteArray} {a0:S24} {A1:Option Addr} {c2:Nat} (hr3:Rd G k24 A1 a0.f3) (hl4:a0.f3.length ≤ c2),rec9 a0=some r → Fn Try.prog 9 G [] [.agg #[VI a0.f0,.string a0.f1,VI a0.f2,.slice A1 a0.f3.length c2]] (parse_Text.post G  r)) (ih20:∀ {G:Gd} {r:(List ByteArray)} {a0_0:(List ByteArray)} {a1:S24} {b1:Nat} {A2:Option Addr} {c3:Nat} {A5:Option Addr} {c6:Nat} (hr7:Rd G k24 A5 a1.f3) (hl8:a1.f3.length ≤ c6),rec20 a0_0 a1=some r → Fn Try.prog 20 G [Blk b1 [.slice A2 a0_0.length c3] 46,Row Kd.string 9 (.slice A2 a0_0.length c3) a0_0] [VP b1 0,.agg #[VI a1.f0,.string a1.f1,VI a1.f2,.slice A5 a1.f3.length c6]] (parse_writer_node.post G b1 A2 c3 A5 c6 a0_0 a1 r)) (ih33:∀ {G:Gd} {r:(List ByteArray)} {a0_0:(List ByteArray)} {a1:S24} {b1:Nat} {A2:Option Addr} {c3:Nat} {A5:Option Addr} {c6:Nat} (hr7:Rd G k24 A5 a1.f3) (hl8:a1.f3.length ≤ c6),rec33 a0_0 a1=some r → Fn Try.prog 33 G [Blk b1 [.slice A2 a0_0.length c3] 46,Row Kd.string 9 (.slice A2 a0_0.length c3) a0_0] [VP b1 0,.agg #[VI a1.f0,.string a1.f1,VI a1.f2,.slice A5 a1.f3.length c6]] (parse_writer_head.post G b1 A2 c3 A5 c6 a0_0 a1 r)) (ih34:∀ {G:Gd} {r:(List ByteArray)} {a0_0:(List ByteArray)} {a1:ByteArray} {a2:S24} {a3:(List ByteArray)} {b1:Nat} {A2:Option Addr} {c3:Nat} {A5:Option Addr} {c6:Nat} {A9:Option Addr} {c10:Nat} (hr7:Rd G k24 A5 a2.f3) (hl8:a2.f3.length ≤ c6) (hr11:Rd G Kd.string A9 a3) (hl12:a3.length ≤ c10),rec34 a0_0 a1 a2 a3=some r → Fn Try.prog 34 G [Blk b1 [.slice A2 a0_0.length c3] 46,Row Kd.string 9 (.slice A2 a0_0.length c3) a0_0] [VP b1 0,.string a1,.agg #[VI a2.f0,.string a2.f1,VI a2.f2,.slice A5 a2.f3.length c6],.slice A9 a3.length c10] (parse_writer_around.post G b1 A2 c3 A5 c6 A9 c10 a0_0 a1 a2 a3 r)) (ih35:∀ {G:Gd} {r:(List ByteArray)} {a0_0:(List ByteArray)} {a1:S24} {b1:Nat} {A2:Option Addr} {c3:Nat} {A5:Option Addr} {c6:Nat} (hr7:Rd G k24 A5 a1.f3) (hl8:a1.f3.length ≤ c6),rec35 a0_0 a1=some r → Fn Try.prog 35 G [Blk b1 [.slice A2 a0_0.length c3] 46,Row Kd.string 9 (.slice A2 a0_0.length c3) a0_0] [VP b1 0,.agg #[VI a1.f0,.string a1.f1,VI a1.f2,.slice A5 a1.f3.length c6]] (parse_writer_typ.post G b1 A2 c3 A5 c6 a0_0 a1 r)) (ih36:∀ {G:Gd} {r:(List ByteArray)} {a0_0:(List ByteArray)} {a1:S24} {b1:Nat} {A2:Option Addr} {c3:Nat} {A5:Option Addr} {c6:Nat} (hr7:Rd G k24 A5 a1.f3) (hl8:a1.f3.length ≤ c6),rec36 a0_0 a1=some r → Fn Try.prog 36 G [Blk b1 [.slice A2 a0_0.length c3] 46,Row Kd.string 9 (.slice A2 a0_0.length c3) a0_0] [VP b1 0,.agg #[VI a1.f0,.string a1.f1,VI a1.f2,.slice A5 a1.f3.length c6]] (parse_writer_statement.post G b1 A2 c3 A5 c6 a0_0 a1 r)) (ih37:∀ {G:Gd} {r:(List ByteArray)} {a0_0:(List ByteArray)} {a1:S24} {b1:Nat} {A2:Option Addr} {c3:Nat} {A5:Option Addr} {c6:Nat} (hr7:Rd G k24 A5 a1.f3) (hl8:a1.f3.length ≤ c6),rec37 a0_0 a1=some r → Fn Try.prog 37 G [Blk b1 [.slice A2 a0_0.length c3] 46,Row Kd.string 9 (.slice A2 a0_0.length c3) a0_0] [VP b1 0,.agg #[VI a1.f0,.string a1.f1,VI a1.f2,.slice A5 a1.f3.length c6]] (parse_writer_expr.post G b1 A2 c3 A5 c6 a0_0 a1 r)) (ih50:∀ {G:Gd} {r:(List ByteArray)} {a0_0:(List ByteArray)} {a1:(List S24)} {a2:ByteArray} {b1:Nat} {A2:Option Addr} {c3:Nat} {A5:Option Addr} {c6:Nat} (hr7:Rd G k24 A5 a1) (hl8:a1.length ≤ c6),rec50 a0_0 a1 a2=some r → Fn Try.prog 50 G [Blk b1 [.slice A2 a0_0.length c3] 46,Row Kd.string 9 (.slice A2 a0_0.length c3) a0_0] [VP b1 0,.slice A5 a1.length c6,.string a2] (parse_writer_list.post G b1 A2 c3 A5 c6 a0_0 a1 a2 r)) {G:Gd} {r:ByteArray} {a0:S24} {A1:Option Addr} {c2:Nat} (hr3:Rd G k24 A1 a0.f3) (hl4:a0.f3.length ≤ c2) (h:parse_Text.g rec9 rec20 rec33 rec34 rec35 rec36 rec37 rec50 a0=some r):Fn Try.prog 9 G [] [.agg #[VI a0.f0,.string a0.f1,VI a0.f2,.slice A1 a0.f3.length c2]] (parse_Text.post G  r):=by
 refine Fn.intro (e:=[(0,.agg #[VI a0.f0,.string a0.f1,VI a0.f2,.slice A1 a0.f3.length c2])]) 33 Try.func9 rfl Try.ntmps9 rfl rfl (Nat.le_of_ble_eq_true rfl) (fun L=>?_)
 unfold parse_Text.g at h
 refine TC.seq ?_
 refine TC.region ?_
 refine TL.cons (TL.box (cs:=[VI a0.f0,.string a0.f1,VI a0.f2,.slice A1 a0.f3.length c2]) rfl rfl rfl rfl (fun b5=>?_))
 refine TV rfl rfl rfl (Val.assign rfl) ?_
 refine TL.nil ?_
 refine TQ.then_ ?_
 refine TC.seq ?_
 refine TC.seq ?_
 refine TC.region ?_
 refine TV rfl rfl rfl (Val.fieldAddrB Try.underlying24 rfl fsz3 rfl rfl rfl) ?_
 refine TV rfl rfl rfl (Val.loadB 0 agg3 rfl rfl rfl) ?_
 refine TV rfl rfl rfl (Val.cmp rfl rfl run_neq) ?_
 refine TL.nil ?_
 refine TQ.then_ ?_
 refine TC.cond_b rfl h (fun hc22 h=>?_) (fun hc22 h=>?_)
 ·
  refine TC.seq ?_
  refine TC.region ?_
  refine TV rfl rfl rfl (Val.build (cs:=[.slice none 0 0]) (is:=[]) (xs:=[]) Try.underlying46 zr46 bld46 rfl rfl rfl rfl) ?_
  refine TL.cons (TL.box (cs:=[.slice none 0 0]) rfl rfl rfl rfl (fun b23=>?_))
  refine TV rfl rfl rfl (Val.assign rfl) ?_
  refine TL.nil ?_
  refine TQ.then_ ?_
  refine TC.seq ?_
  refine TC.region ?_
  refine TV rfl rfl rfl (Val.move rfl) ?_
  refine TV rfl rfl rfl (Val.loadsB 1 (cs:=[VI a0.f0,.string a0.f1,VI a0.f2,.slice A1 a0.f3.length c2]) agg24 fsz24 rfl rfl rfl rfl) ?_
  refine TK.new (Row.nil Kd.string 9) ?_
  refine TK.sel (Ls:=[Blk b23 [.slice none 0 0] 46,Row Kd.string 9 (.slice none 0 0) ([]:List ByteArray),Blk b5 [VI a0.f0,.string a0.f1,VI a0.f2,.slice A1 a0.f3.length c2] 24]) [1,0,2] 3 rfl rfl rfl ?_
  obtain ⟨y25,hy26,h⟩:=bind_no h
  refine TL.cons (TL.callV (Lin:=[Blk b23 [.slice none 0 0] 46,Row Kd.string 9 (.slice none 0 0) ([]:List ByteArray)]) (args:=[VP b23 0,.agg #[VI a0.f0,.string a0.f1,VI a0.f2,.slice A1 a0.f3.length c2]]) rfl rfl rfl hbd20 rfl rfl (ih20 (a0_0:=([]:List ByteArray)) (a1:=a0) hr3 hl4 hy26) rfl ?_)
  rintro _ _ _ _ ⟨rfl,A27,c28,rfl,rfl⟩
  refine TL.nil ?_
  refine TQ.then_ ?_
  refine TC.seq ?_
  refine TC.region ?_
  refine TV rfl rfl rfl (Val.move rfl) ?_
  refine TV rfl rfl rfl (Val.nilCheck rfl) ?_
  refine TV rfl rfl rfl (Val.fieldAddrB Try.underlying46 rfl fsz44 rfl rfl rfl) ?_
  refine TV rfl rfl rfl (Val.loadB 0 agg44 rfl rfl rfl) ?_
  refine TK.sel (Ls:=[Row Kd.string 9 (.slice A27 y25.length c28) y25,Blk b23 [.slice A27 y25.length c28] 46,Blk b5 [VI a0.f0,.string a0.f1,VI a0.f2,.slice A1 a0.f3.length c2] 24]) [1,0,2] 3 rfl rfl rfl ?_
  refine TK.share (fun G30 e31 hs32 hb33=>?_)
  have rd34:Rd G30 Kd.string A27 y25:=Rd.row hs32
  have le35:y25.length ≤ c28:=Row.le hs32
  obtain ⟨y36,hy37,h⟩:=bind_no h
  refine TL.cons (TL.callV (Lin:=[]) (args:=[.slice A27 y25.length c28,.string (⟨#[32]⟩:ByteArray)]) rfl rfl rfl hbd21 rfl rfl (strings_Join.calls (a0:=y25) (a1:=(⟨#[32]⟩:ByteArray)) (Row.pl (k:=Kd.string) hs32) rd34 le35 hy37) rfl ?_)
  rintro _ _ _ _ ⟨rfl,rfl,rfl⟩
  refine TV rfl rfl rfl (Val.assign rfl) ?_
  refine TL.nil ?_
  refine TQ.then_ ?_
  refine TC.ret ?_
  refine TQ.thenR ?_
  refine TQ.back hb33 ?_
  obtain rfl:=Option.some.inj h
  exact TQ.fin (.inl rfl) rfl Try.results9 (.tmp rfl .nil) rfl (FRel.mk (Ls:=[]) [] 3 (Gd.le.refl _) rfl rfl rfl ⟨rfl,rfl,rfl⟩)
 ·
  refine TC.skip ?_
  refine TQ.then_ ?_
  refine TC.seq ?_
  refine TC.region ?_
  refine TL.cons (TL.alloc (cs:=[.pointer none,.slice none 0 0]) rfl rfl zr52 rfl (fun b38=>?_))
  refine TK.chg (ch:=Bld 52 5 b38 (⟨#[]⟩:ByteArray)) Bld.new ?_
  refine TL.nil ?_
  refine TQ.then_ ?_
  refine TC.seq ?_
  refine TC.seq ?_
  refine TC.region ?_
  refine TV rfl rfl rfl (Val.fieldAddrB Try.underlying24 rfl fsz22 rfl rfl rfl) ?_
  refine TV rfl rfl rfl (Val.loadB 1 agg22 rfl rfl rfl) ?_
  refine TV rfl rfl rfl (Val.len Try.underlying22 rfl) ?_
  refine TV rfl rfl rfl (Val.move rfl) ?_
  refine TL.nil ?_
  refine TQ.then_ ?_
  obtain ⟨o158,ho158,ko158⟩:=bind_no h
  clear h
  refine TC.tail (fun a W=>∃ (x157:ByteArray),x157=o158∧Fr 33 a [(4,VP b38 0)]∧Own G (Bld 52 5 b38 x157::L) W) ?_ ?_
  ·
   rintro a W ⟨x157,rfl,hF,hO⟩
   have h:=ko158
   clear ko158 ho158
   refine TQ.use ?_ hF hO
   clear hF hO
   refine TQ.then_ ?_
   refine TC.seq ?_
   refine TC.region ?_
   refine TL.cons (TL.callV (Lin:=[Bld 52 5 b38 x157]) (args:=[VP b38 0]) rfl rfl rfl hbd23 rfl rfl builder_string rfl ?_)
   rintro _ _ _ _ ⟨rfl,rfl,rfl⟩
   refine TV rfl rfl rfl (Val.assign rfl) ?_
   refine TL.nil ?_
   refine TQ.then_ ?_
   refine TC.ret ?_
   obtain rfl:=Option.some.inj h
   exact TQ.fin (.inl rfl) rfl Try.results9 (.tmp rfl .nil) rfl (FRel.mk (Ls:=[]) [] 0 (Gd.le.refl _) rfl rfl rfl ⟨rfl,rfl,rfl⟩)
  ·
   refine TC.block ?_
   intro a W hF hO
   have hS:∃ (x117:Int) (x118:ByteArray),parse_Text.l0 rec9 a0 (a0.f3.length + 1) x117 x118=some o158∧Fr 33 a [(4,VP b38 0),(21,.slice A1 a0.f3.length c2),(22,VI (a0.f3.length:Int)),(23,VI x117)]∧Own G (Bld 52 5 b38 x118::L) W:=by
    exact ⟨0,(⟨#[]⟩:ByteArray),ho158,hF.sub ⟨rfl,rfl,rfl,rfl,trivial⟩,hO.selT (Ls:=[Bld 52 5 b38 (⟨#[]⟩:ByteArray)]) [0] 2 rfl rfl rfl⟩
   clear hF hO ho158 ko158
   refine TC.loop (fun n159 a W=>∃ (x117:Int) (x118:ByteArray),parse_Text.l0 rec9 a0 n159 x117 x118=some o158∧Fr 33 a [(4,VP b38 0),(21,.slice A1 a0.f3.length c2),(22,VI (a0.f3.length:Int)),(23,VI x117)]∧Own G (Bld 52 5 b38 x118::L) W) ?_ ?_ hS
   ·
    rintro a W ⟨x117,x118,h,hF,hO⟩
    exact none_no h
   ·
    clear hS
    rintro n159 a W ⟨x117,x118,h,hF,hO⟩
    rw [parse_Text.l0] at h
    refine TC.use ?_ hF hO
    clear hF hO
    refine TC.seq ?_
    refine TC.region ?_
    refine TV rfl rfl rfl (Val.cmp rfl rfl run_lss) ?_
    refine TL.nil ?_
    refine TQ.then_ ?_
    refine TC.seq ?_
    refine TC.cond_p rfl h (fun hc199 h=>?_) (fun hc199 h=>?_)
    ·
     refine TC.skip ?_
     refine TQ.then_ ?_
     refine TC.seq ?_
     refine TC.block ?_
     refine TC.seq ?_
     refine TC.region ?_
     obtain ⟨y218,hx219,h⟩:=bind_no h
     obtain ⟨ad220,cs226,hA221,hi222,hj223,hcl224,hK225⟩:=Rd.at hr3 hx219
     obtain ⟨A227,c228,rfl,hr229,hl230⟩:=k24_openR hK225
     refine TV rfl rfl rfl (Val.indexAddr Try.underlying22 fsz24 rfl hA221 rfl hi222 hj223) ?_
     refine TV rfl rfl rfl (Val.loadsS (cs:=[VI y218.f0,.string y218.f1,VI y218.f2,.slice A227 y218.f3.length c228]) agg24 fsz24 rfl rfl (Cl.sub (off:=0) (n:=4) hcl224 rfl)) ?_
     refine TL.cons (TL.alloc (cs:=[VI 0,.string (⟨#[]⟩:ByteArray),VI 0,.slice none 0 0]) rfl rfl zr24 rfl (fun b231=>?_))
     refine TL.cons (TL.store 0 (ds:=[VI y218.f0,.string y218.f1,VI y218.f2,.slice A227 y218.f3.length c228]) (cs':=[VI y218.f0,.string y218.f1,VI y218.f2,.slice A227 y218.f3.length c228]) (L':=(Blk b231 [VI y218.f0,.string y218.f1,VI y218.f2,.slice A227 y218.f3.length c228] 24::Bld 52 5 b38 x118::L)) rfl fsz24 rfl rfl rfl rfl rfl (Nat.le_of_ble_eq_true rfl) rfl rfl ?_)
     refine TL.nil ?_
     refine TQ.then_ ?_
     refine TC.region ?_
     refine TV rfl rfl rfl (Val.loadsB 0 (cs:=[VI y218.f0,.string y218.f1,VI y218.f2,.slice A227 y218.f3.length c228]) agg24 fsz24 rfl rfl rfl rfl) ?_
     obtain ⟨y232,hy233,h⟩:=bind_no h
     refine TL.cons (TL.callV (Lin:=[]) (args:=[.agg #[VI y218.f0,.string y218.f1,VI y218.f2,.slice A227 y218.f3.length c228]]) rfl rfl rfl hbd9 rfl rfl (ih9 (a0:=y218) hr229 hl230 hy233) rfl ?_)
     rintro _ _ _ _ ⟨rfl,rfl,rfl⟩
     obtain ⟨hz234,h⟩:=ite_no h
     refine TV rfl rfl rfl (Val.addS rfl rfl hz234) ?_
     refine TK.sel (Ls:=[Bld 52 5 b38 x118,Blk b231 [VI y218.f0,.string y218.f1,VI y218.f2,.slice A227 y218.f3.length c228] 24]) [1,0] 2 rfl rfl rfl ?_
     obtain ⟨hl235,h⟩:=ite_no h
     refine TL.cons (TL.callV (Lin:=[Bld 52 5 b38 x118]) (args:=[VP b38 0,.string (cat y232 (⟨#[10]⟩:ByteArray))]) rfl rfl rfl hbd22 rfl rfl (builder_write hl235) rfl ?_)
     rintro _ _ _ _ ⟨rfl,rfl,rfl⟩
     refine TL.nil ?_
     refine TQ.inB ?_
     refine TQ.then_ ?_
     refine TC.region ?_
     refine TV rfl rfl rfl (Val.cmp rfl rfl run_add) ?_
     refine TV rfl rfl rfl (Val.move rfl) ?_
     refine TL.nil ?_
     exact fun a W hF hO=>⟨IntKind.i64.wrap (x117 + 1),(cat x118 (cat y232 (⟨#[10]⟩:ByteArray))),h,hF.sub ⟨rfl,rfl,rfl,rfl,trivial⟩,hO.selT (Ls:=[Bld 52 5 b38 (cat x118 (cat y232 (⟨#[10]⟩:ByteArray)))]) [0] 2 rfl rfl rfl⟩
    ·
     refine TC.exit ?_
     refine TQ.thenX ?_
     refine TQ.thenX ?_
     refine TQ.inBX ?_
     exact fun a W hF hO=>⟨x118,Option.some.inj h,hF.sub ⟨rfl,trivial⟩,hO.selT (Ls:=[Bld 52 5 b38 x118]) [0] 1 rfl rfl rfl⟩
def parse_writer_node.g (rec9:(S24 → Option ByteArray)) (rec20:((List ByteArray) → S24 → Option (List ByteArray))) (rec33:((List ByteArray) → S24 → Option (List ByteArray))) (rec34:((List ByteArray) → ByteArray → S24 → (List ByteArray) → Option (List ByteArray))) (rec35:((List ByteArray) → S24 → Option (List ByteArray))) (rec36:((List ByteArray) → S24 → Option (List ByteArray))) (rec37:((List ByteArray) → S24 → Option (List ByteArray))) (rec50:((List ByteArray) → (List S24) → ByteArray → Option (List ByteArray))) (a0_0:(List ByteArray)) (a1:S24):Option (List ByteArray):=(parse_least.f a1.f0).bind fun (y10:Int)=>jn (γ:=(List ByteArray)) (fun (x426:Bool)=>(if x426=true then (parse_writer_put.f a0_0 ([(⟨#[63]⟩:ByteArray)]:List ByteArray)).bind fun (y527:(List ByteArray))=>some y527 else (if a1.f0=1 then (rec9 a1).bind fun (y609:ByteArray)=>(parse_writer_put.f a0_0 ([y609]:List ByteArray)).bind fun (y619:(List ByteArray))=>some y619 else (if a1.f0=2 then (rec33 a0_0 a1).bind fun (y685:(List ByteArray))=>some y685 else (if a1.f0=3 then (at? a1.f3 0).bind fun y763=>(rec34 a0_0 a1.f1 y763 ([]:List ByteArray)).bind fun (y776:(List ByteArray))=>some y776 else (if a1.f0 < 9 then (rec35 a0_0 a1).bind fun (y799:(List ByteArray))=>some y799 else (if a1.f0 < 17 then (rec36 a0_0 a1).bind fun (y816:(List ByteArray))=>some y816 else (rec37 a0_0 a1).bind fun (y821:(List ByteArray))=>some y821))))))) (fun (j427:(Bool → Option (List ByteArray)))=>(if y10 < 0 then j427 true else j427 (decide ((a1.f3.length:Int) < y10))))
theorem parse_writer_node.step (rec9:(S24 → Option ByteArray)) (rec20:((List ByteArray) → S24 → Option (List ByteArray))) (rec33:((List ByteArray) → S24 → Option (List ByteArray))) (rec34:((List ByteArray) → ByteArray → S24 → (List ByteArray) → Option (List ByteArray))) (rec35:((List ByteArray) → S24 → Option (List ByteArray))) (rec36:((List ByteArray) → S24 → Option (List ByteArray))) (rec37:((List ByteArray) → S24 → Option (List ByteArray))) (rec50:((List ByteArray) → (List S24) → ByteArray → Option (List ByteArray))) (ih9:∀ {G:Gd} {r:ByteArray} {a0:S24} {A1:Option Addr} {c2:Nat} (hr3:Rd G k24 A1 a0.f3) (hl4:a0.f3.length ≤ c2),rec9 a0=some r → Fn Try.prog 9 G [] [.agg #[VI a0.f0,.string a0.f1,VI a0.f2,.slice A1 a0.f3.length c2]] (parse_Text.post G  r)) (ih20:∀ {G:Gd} {r:(List ByteArray)} {a0_0:(List ByteArray)} {a1:S24} {b1:Nat} {A2:Option Addr} {c3:Nat} {A5:Option Addr} {c6:Nat} (hr7:Rd G k24 A5 a1.f3) (hl8:a1.f3.length ≤ c6),rec20 a0_0 a1=some r → Fn Try.prog 20 G [Blk b1 [.slice A2 a0_0.length c3] 46,Row Kd.string 9 (.slice A2 a0_0.length c3) a0_0] [VP b1 0,.agg #[VI a1.f0,.string a1.f1,VI a1.f2,.slice A5 a1.f3.length c6]] (parse_writer_node.post G b1 A2 c3 A5 c6 a0_0 a1 r)) (ih33:∀ {G:Gd} {r:(List ByteArray)} {a0_0:(List ByteArray)} {a1:S24} {b1:Nat} {A2:Option Addr} {c3:Nat} {A5:Option Addr} {c6:Nat} (hr7:Rd G k24 A5 a1.f3) (hl8:a1.f3.length ≤ c6),rec33 a0_0 a1=some r → Fn Try.prog 33 G [Blk b1 [.slice A2 a0_0.length c3] 46,Row Kd.string 9 (.slice A2 a0_0.length c3) a0_0] [VP b1 0,.agg #[VI a1.f0,.string a1.f1,VI a1.f2,.slice A5 a1.f3.length c6]] (parse_writer_head.post G b1 A2 c3 A5 c6 a0_0 a1 r)) (ih34:∀ {G:Gd} {r:(List ByteArray)} {a0_0:(List ByteArray)} {a1:ByteArray} {a2:S24} {a3:(List ByteArray)} {b1:Nat} {A2:Option Addr} {c3:Nat} {A5:Option Addr} {c6:Nat} {A9:Option Addr} {c10:Nat} (hr7:Rd G k24 A5 a2.f3) (hl8:a2.f3.length ≤ c6) (hr11:Rd G Kd.string A9 a3) (hl12:a3.length ≤ c10),rec34 a0_0 a1 a2 a3=some r → Fn Try.prog 34 G [Blk b1 [.slice A2 a0_0.length c3] 46,Row Kd.string 9 (.slice A2 a0_0.length c3) a0_0] [VP b1 0,.string a1,.agg #[VI a2.f0,.string a2.f1,VI a2.f2,.slice A5 a2.f3.length c6],.slice A9 a3.length c10] (parse_writer_around.post G b1 A2 c3 A5 c6 A9 c10 a0_0 a1 a2 a3 r)) (ih35:∀ {G:Gd} {r:(List ByteArray)} {a0_0:(List ByteArray)} {a1:S24} {b1:Nat} {A2:Option Addr} {c3:Nat} {A5:Option Addr} {c6:Nat} (hr7:Rd G k24 A5 a1.f3) (hl8:a1.f3.length ≤ c6),rec35 a0_0 a1=some r → Fn Try.prog 35 G [Blk b1 [.slice A2 a0_0.length c3] 46,Row Kd.string 9 (.slice A2 a0_0.length c3) a0_0] [VP b1 0,.agg #[VI a1.f0,.string a1.f1,VI a1.f2,.slice A5 a1.f3.length c6]] (parse_writer_typ.post G b1 A2 c3 A5 c6 a0_0 a1 r)) (ih36:∀ {G:Gd} {r:(List ByteArray)} {a0_0:(List ByteArray)} {a1:S24} {b1:Nat} {A2:Option Addr} {c3:Nat} {A5:Option Addr} {c6:Nat} (hr7:Rd G k24 A5 a1.f3) (hl8:a1.f3.length ≤ c6),rec36 a0_0 a1=some r → Fn Try.prog 36 G [Blk b1 [.slice A2 a0_0.length c3] 46,Row Kd.string 9 (.slice A2 a0_0.length c3) a0_0] [VP b1 0,.agg #[VI a1.f0,.string a1.f1,VI a1.f2,.slice A5 a1.f3.length c6]] (parse_writer_statement.post G b1 A2 c3 A5 c6 a0_0 a1 r)) (ih37:∀ {G:Gd} {r:(List ByteArray)} {a0_0:(List ByteArray)} {a1:S24} {b1:Nat} {A2:Option Addr} {c3:Nat} {A5:Option Addr} {c6:Nat} (hr7:Rd G k24 A5 a1.f3) (hl8:a1.f3.length ≤ c6),rec37 a0_0 a1=some r → Fn Try.prog 37 G [Blk b1 [.slice A2 a0_0.length c3] 46,Row Kd.string 9 (.slice A2 a0_0.length c3) a0_0] [VP b1 0,.agg #[VI a1.f0,.string a1.f1,VI a1.f2,.slice A5 a1.f3.length c6]] (parse_writer_expr.post G b1 A2 c3 A5 c6 a0_0 a1 r)) (ih50:∀ {G:Gd} {r:(List ByteArray)} {a0_0:(List ByteArray)} {a1:(List S24)} {a2:ByteArray} {b1:Nat} {A2:Option Addr} {c3:Nat} {A5:Option Addr} {c6:Nat} (hr7:Rd G k24 A5 a1) (hl8:a1.length ≤ c6),rec50 a0_0 a1 a2=some r → Fn Try.prog 50 G [Blk b1 [.slice A2 a0_0.length c3] 46,Row Kd.string 9 (.slice A2 a0_0.length c3) a0_0] [VP b1 0,.slice A5 a1.length c6,.string a2] (parse_writer_list.post G b1 A2 c3 A5 c6 a0_0 a1 a2 r)) {G:Gd} {r:(List ByteArray)} {a0_0:(List ByteArray)} {a1:S24} {b1:Nat} {A2:Option Addr} {c3:Nat} {A5:Option Addr} {c6:Nat} (hr7:Rd G k24 A5 a1.f3) (hl8:a1.f3.length ≤ c6) (h:parse_writer_node.g rec9 rec20 rec33 rec34 rec35 rec36 rec37 rec50 a0_0 a1=some r):Fn Try.prog 20 G [Blk b1 [.slice A2 a0_0.length c3] 46,Row Kd.string 9 (.slice A2 a0_0.length c3) a0_0] [VP b1 0,.agg #[VI a1.f0,.string a1.f1,VI a1.f2,.slice A5 a1.f3.length c6]] (parse_writer_node.post G b1 A2 c3 A5 c6 a0_0 a1 r):=by
 refine Fn.intro (e:=[(0,VP b1 0),(1,.agg #[VI a1.f0,.string a1.f1,VI a1.f2,.slice A5 a1.f3.length c6])]) 66 Try.func20 rfl Try.ntmps20 rfl rfl (Nat.le_of_ble_eq_true rfl) (fun L=>?_)
 unfold parse_writer_node.g at h
 refine TC.seq ?_
 refine TC.region ?_
 refine TL.cons (TL.box (cs:=[VI a1.f0,.string a1.f1,VI a1.f2,.slice A5 a1.f3.length c6]) rfl rfl rfl rfl (fun b9=>?_))
 refine TL.nil ?_
 refine TQ.then_ ?_
 refine TC.seq ?_
 refine TC.region ?_
 refine TV rfl rfl rfl (Val.fieldAddrB Try.underlying24 rfl fsz3 rfl rfl rfl) ?_
 refine TV rfl rfl rfl (Val.loadB 0 agg3 rfl rfl rfl) ?_
 obtain ⟨y10,hy11,h⟩:=bind_no h
 refine TL.cons (TL.callV (Lin:=[]) (args:=[VI a1.f0]) rfl rfl rfl hbd31 rfl rfl (parse_least.calls (a0:=a1.f0) hy11) rfl ?_)
 rintro _ _ _ _ ⟨rfl,rfl,rfl⟩
 refine TV rfl rfl rfl (Val.assign rfl) ?_
 refine TL.nil ?_
 refine TQ.then_ ?_
 refine TC.block ?_
 refine TC.seq ?_
 obtain ⟨j427,hj427,h⟩:=jn_no h
 refine TC.tail (fun a W=>∃ (x426:Bool),j427 x426=some r∧Fr 66 a [(0,VP b1 0),(3,VP b9 0),(11,.bool x426)]∧Own G (Blk b1 [.slice A2 a0_0.length c3] 46::Blk b9 [VI a1.f0,.string a1.f1,VI a1.f2,.slice A5 a1.f3.length c6] 24::Row Kd.string 9 (.slice A2 a0_0.length c3) a0_0::L) W) ?_ ?_
 ·
  rintro a W ⟨x426,h,hF,hO⟩
  rw [hj427] at h
  refine TQ.use ?_ hF hO
  clear hF hO
  refine TQ.then_ ?_
  refine TC.cond_b rfl h (fun hc518 h=>?_) (fun hc518 h=>?_)
  ·
   refine TC.region ?_
   refine TV rfl rfl rfl (Val.move rfl) ?_
   refine TL.cons (TL.buildSlice (xs:=[.const (.string (⟨#[63]⟩:ByteArray))]) (vs:=[.string (⟨#[63]⟩:ByteArray)]) (cs:=[.string (⟨#[63]⟩:ByteArray)]) rfl rfl Try.underlying44 zs9 rfl rfl rfl rfl rfl rfl rfl rfl (fun b519=>?_))
   refine TK.new (Els.nil Kd.string) ?_
   refine TK.new (El.of (k:=Kd.string) (xv:=(⟨#[63]⟩:ByteArray)) (cs:=[.string (⟨#[63]⟩:ByteArray)]) (fun W B=>rfl)) ?_
   refine TK.sel (Ls:=[Els Kd.string [] [],El Kd.string (⟨#[63]⟩:ByteArray) [.string (⟨#[63]⟩:ByteArray)],Blk b519 [.string (⟨#[63]⟩:ByteArray)] 9,Blk b1 [.slice A2 a0_0.length c3] 46,Blk b9 [VI a1.f0,.string a1.f1,VI a1.f2,.slice A5 a1.f3.length c6] 24,Row Kd.string 9 (.slice A2 a0_0.length c3) a0_0]) [1,0,2,3,4,5] 6 rfl rfl rfl ?_
   refine TK.two (ch:=Els Kd.string [(⟨#[63]⟩:ByteArray)] [.string (⟨#[63]⟩:ByteArray)]) (Els.snoc Kd.string) ?_
   refine TK.sel (Ls:=[Blk b519 [.string (⟨#[63]⟩:ByteArray)] 9,Els Kd.string [(⟨#[63]⟩:ByteArray)] [.string (⟨#[63]⟩:ByteArray)],Blk b1 [.slice A2 a0_0.length c3] 46,Blk b9 [VI a1.f0,.string a1.f1,VI a1.f2,.slice A5 a1.f3.length c6] 24,Row Kd.string 9 (.slice A2 a0_0.length c3) a0_0]) [1,0,2,3,4] 5 rfl rfl rfl ?_
   refine TK.two (ch:=Row Kd.string 9 (.slice (some ⟨b519,0,none⟩) 1 1) ([(⟨#[63]⟩:ByteArray)]:List ByteArray)) (Row.lit Kd.string rfl rfl) ?_
   refine TK.share (fun G521 e522 hs523 hb524=>?_)
   have rd525:Rd G521 Kd.string (some ⟨b519,0,none⟩) ([(⟨#[63]⟩:ByteArray)]:List ByteArray):=Rd.row hs523
   have le526:([(⟨#[63]⟩:ByteArray)]:List ByteArray).length ≤ 1:=Row.le hs523
   refine TK.sel (Ls:=[Blk b1 [.slice A2 a0_0.length c3] 46,Row Kd.string 9 (.slice A2 a0_0.length c3) a0_0,Blk b9 [VI a1.f0,.string a1.f1,VI a1.f2,.slice A5 a1.f3.length c6] 24]) [0,2,1] 3 rfl rfl rfl ?_
   obtain ⟨y527,hy528,h⟩:=bind_no h
   refine TL.cons (TL.callV (Lin:=[Blk b1 [.slice A2 a0_0.length c3] 46,Row Kd.string 9 (.slice A2 a0_0.length c3) a0_0]) (args:=[VP b1 0,.slice (some ⟨b519,0,none⟩) 1 1]) rfl rfl rfl hbd32 rfl rfl (parse_writer_put.calls (a0_0:=a0_0) (a1:=([(⟨#[63]⟩:ByteArray)]:List ByteArray)) rd525 le526 hy528) rfl ?_)
   rintro _ _ _ _ ⟨rfl,A529,c530,rfl,rfl⟩
   refine TL.nil ?_
   refine TQ.inB ?_
   refine TQ.back hb524 ?_
   obtain rfl:=Option.some.inj h
   exact TQ.fin (.inr rfl) rfl Try.results20 .nil rfl (FRel.mk (Ls:=[Blk b1 [.slice A529 y527.length c530] 46,Row Kd.string 9 (.slice A529 y527.length c530) y527]) [1,2] 4 (Gd.le.refl _) rfl rfl rfl ⟨rfl,A529,c530,rfl,rfl⟩)
  ·
   refine TC.seq ?_
   refine TC.region ?_
   refine TV rfl rfl rfl (Val.fieldAddrB Try.underlying24 rfl fsz3 rfl rfl rfl) ?_
   refine TV rfl rfl rfl (Val.loadB 1 agg3 rfl rfl rfl) ?_
   refine TV rfl rfl rfl (Val.cmp rfl rfl run_eql) ?_
   refine TV rfl rfl rfl (Val.assign rfl) ?_
   refine TL.nil ?_
   refine TQ.then_ ?_
   refine TC.cond_p rfl h (fun hc608 h=>?_) (fun hc608 h=>?_)
   ·
    refine TC.region ?_
    refine TV rfl rfl rfl (Val.move rfl) ?_
    refine TV rfl rfl rfl (Val.loadsB 1 (cs:=[VI a1.f0,.string a1.f1,VI a1.f2,.slice A5 a1.f3.length c6]) agg24 fsz24 rfl rfl rfl rfl) ?_
    obtain ⟨y609,hy610,h⟩:=bind_no h
    refine TL.cons (TL.callV (Lin:=[]) (args:=[.agg #[VI a1.f0,.string a1.f1,VI a1.f2,.slice A5 a1.f3.length c6]]) rfl rfl rfl hbd9 rfl rfl (ih9 (a0:=a1) hr7 hl8 hy610) rfl ?_)
    rintro _ _ _ _ ⟨rfl,rfl,rfl⟩
    refine TL.cons (TL.buildSlice (xs:=[.tmp 30]) (vs:=[.string y609]) (cs:=[.string y609]) rfl rfl Try.underlying44 zs9 rfl rfl rfl rfl rfl rfl rfl rfl (fun b611=>?_))
    refine TK.new (Els.nil Kd.string) ?_
    refine TK.new (El.of (k:=Kd.string) (xv:=y609) (cs:=[.string y609]) (fun W B=>rfl)) ?_
    refine TK.sel (Ls:=[Els Kd.string [] [],El Kd.string y609 [.string y609],Blk b611 [.string y609] 9,Blk b1 [.slice A2 a0_0.length c3] 46,Blk b9 [VI a1.f0,.string a1.f1,VI a1.f2,.slice A5 a1.f3.length c6] 24,Row Kd.string 9 (.slice A2 a0_0.length c3) a0_0]) [1,0,2,3,4,5] 6 rfl rfl rfl ?_
    refine TK.two (ch:=Els Kd.string [y609] [.string y609]) (Els.snoc Kd.string) ?_
    refine TK.sel (Ls:=[Blk b611 [.string y609] 9,Els Kd.string [y609] [.string y609],Blk b1 [.slice A2 a0_0.length c3] 46,Blk b9 [VI a1.f0,.string a1.f1,VI a1.f2,.slice A5 a1.f3.length c6] 24,Row Kd.string 9 (.slice A2 a0_0.length c3) a0_0]) [1,0,2,3,4] 5 rfl rfl rfl ?_
    refine TK.two (ch:=Row Kd.string 9 (.slice (some ⟨b611,0,none⟩) 1 1) ([y609]:List ByteArray)) (Row.lit Kd.string rfl rfl) ?_
    refine TK.share (fun G613 e614 hs615 hb616=>?_)
    have rd617:Rd G613 Kd.string (some ⟨b611,0,none⟩) ([y609]:List ByteArray):=Rd.row hs615
    have le618:([y609]:List ByteArray).length ≤ 1:=Row.le hs615
    refine TK.sel (Ls:=[Blk b1 [.slice A2 a0_0.length c3] 46,Row Kd.string 9 (.slice A2 a0_0.length c3) a0_0,Blk b9 [VI a1.f0,.string a1.f1,VI a1.f2,.slice A5 a1.f3.length c6] 24]) [0,2,1] 3 rfl rfl rfl ?_
    obtain ⟨y619,hy620,h⟩:=bind_no h
    refine TL.cons (TL.callV (Lin:=[Blk b1 [.slice A2 a0_0.length c3] 46,Row Kd.string 9 (.slice A2 a0_0.length c3) a0_0]) (args:=[VP b1 0,.slice (some ⟨b611,0,none⟩) 1 1]) rfl rfl rfl hbd32 rfl rfl (parse_writer_put.calls (a0_0:=a0_0) (a1:=([y609]:List ByteArray)) rd617 le618 hy620) rfl ?_)
    rintro _ _ _ _ ⟨rfl,A621,c622,rfl,rfl⟩
    refine TL.nil ?_
    refine TQ.inB ?_
    refine TQ.back hb616 ?_
    obtain rfl:=Option.some.inj h
    exact TQ.fin (.inr rfl) rfl Try.results20 .nil rfl (FRel.mk (Ls:=[Blk b1 [.slice A621 y619.length c622] 46,Row Kd.string 9 (.slice A621 y619.length c622) y619]) [1,2] 4 (Gd.le.refl _) rfl rfl rfl ⟨rfl,A621,c622,rfl,rfl⟩)
   ·
    refine TC.seq ?_
    refine TC.region ?_
    refine TV rfl rfl rfl (Val.fieldAddrB Try.underlying24 rfl fsz3 rfl rfl rfl) ?_
    refine TV rfl rfl rfl (Val.loadB 1 agg3 rfl rfl rfl) ?_
    refine TV rfl rfl rfl (Val.cmp rfl rfl run_eql) ?_
    refine TV rfl rfl rfl (Val.assign rfl) ?_
    refine TL.nil ?_
    refine TQ.then_ ?_
    refine TC.cond_p rfl h (fun hc684 h=>?_) (fun hc684 h=>?_)
    ·
     refine TC.region ?_
     refine TV rfl rfl rfl (Val.move rfl) ?_
     refine TV rfl rfl rfl (Val.loadsB 1 (cs:=[VI a1.f0,.string a1.f1,VI a1.f2,.slice A5 a1.f3.length c6]) agg24 fsz24 rfl rfl rfl rfl) ?_
     refine TK.sel (Ls:=[Blk b1 [.slice A2 a0_0.length c3] 46,Row Kd.string 9 (.slice A2 a0_0.length c3) a0_0,Blk b9 [VI a1.f0,.string a1.f1,VI a1.f2,.slice A5 a1.f3.length c6] 24]) [0,2,1] 3 rfl rfl rfl ?_
     obtain ⟨y685,hy686,h⟩:=bind_no h
     refine TL.cons (TL.callV (Lin:=[Blk b1 [.slice A2 a0_0.length c3] 46,Row Kd.string 9 (.slice A2 a0_0.length c3) a0_0]) (args:=[VP b1 0,.agg #[VI a1.f0,.string a1.f1,VI a1.f2,.slice A5 a1.f3.length c6]]) rfl rfl rfl hbd33 rfl rfl (ih33 (a0_0:=a0_0) (a1:=a1) hr7 hl8 hy686) rfl ?_)
     rintro _ _ _ _ ⟨rfl,A687,c688,rfl,rfl⟩
     refine TL.nil ?_
     refine TQ.inB ?_
     obtain rfl:=Option.some.inj h
     exact TQ.fin (.inr rfl) rfl Try.results20 .nil rfl (FRel.mk (Ls:=[Blk b1 [.slice A687 y685.length c688] 46,Row Kd.string 9 (.slice A687 y685.length c688) y685]) [0,1] 3 (Gd.le.refl _) rfl rfl rfl ⟨rfl,A687,c688,rfl,rfl⟩)
    ·
     refine TC.seq ?_
     refine TC.region ?_
     refine TV rfl rfl rfl (Val.fieldAddrB Try.underlying24 rfl fsz3 rfl rfl rfl) ?_
     refine TV rfl rfl rfl (Val.loadB 1 agg3 rfl rfl rfl) ?_
     refine TV rfl rfl rfl (Val.cmp rfl rfl run_eql) ?_
     refine TV rfl rfl rfl (Val.assign rfl) ?_
     refine TL.nil ?_
     refine TQ.then_ ?_
     refine TC.cond_p rfl h (fun hc744 h=>?_) (fun hc744 h=>?_)
     ·
      refine TC.regionAnyS (L0:=(Blk b9 [VI a1.f0,.string a1.f1,VI a1.f2,.slice A5 a1.f3.length c6] 24::L)) [] [0,1,2,3,4,5,6] mixed (by kernel_rfl) ?_
      refine TA.take 0 rfl (by kernel_rfl) rfl (PQ.inB PQ.body) rfl (Val.move rfl) (fun W hO=>hO.selT (Ls:=[Blk b9 [VI a1.f0,.string a1.f1,VI a1.f2,.slice A5 a1.f3.length c6] 24]) [1] 3 rfl rfl rfl) ?_
      refine TA.take 1 rfl (by kernel_rfl) rfl (PQ.inB PQ.body) rfl (Val.fieldAddrB Try.underlying24 rfl fsz9 rfl rfl rfl) (fun W hO=>hO.selT (Ls:=[Blk b9 [VI a1.f0,.string a1.f1,VI a1.f2,.slice A5 a1.f3.length c6] 24]) [1] 3 rfl rfl rfl) ?_
      refine TA.take 2 rfl (by kernel_rfl) rfl (PQ.inB PQ.body) rfl (Val.loadB 0 agg9 rfl rfl rfl) (fun W hO=>hO.selT (Ls:=[Blk b9 [VI a1.f0,.string a1.f1,VI a1.f2,.slice A5 a1.f3.length c6] 24]) [1] 3 rfl rfl rfl) ?_
      refine TA.take 3 rfl (by kernel_rfl) rfl (PQ.inB PQ.body) rfl (Val.fieldAddrB Try.underlying24 rfl fsz22 rfl rfl rfl) (fun W hO=>hO.selT (Ls:=[Blk b9 [VI a1.f0,.string a1.f1,VI a1.f2,.slice A5 a1.f3.length c6] 24]) [1] 3 rfl rfl rfl) ?_
      refine TA.take 4 rfl (by kernel_rfl) rfl (PQ.inB PQ.body) rfl (Val.loadB 0 agg22 rfl rfl rfl) (fun W hO=>hO.selT (Ls:=[Blk b9 [VI a1.f0,.string a1.f1,VI a1.f2,.slice A5 a1.f3.length c6] 24]) [1] 3 rfl rfl rfl) ?_
      obtain ⟨y763,hx764,h⟩:=bind_no h
      obtain ⟨ad765,cs771,hA766,hi767,hj768,hcl769,hK770⟩:=Rd.at hr7 hx764
      obtain ⟨A772,c773,rfl,hr774,hl775⟩:=k24_openR hK770
      refine TA.take 5 rfl (by kernel_rfl) rfl (PQ.inB PQ.body) rfl (Val.indexAddr Try.underlying22 fsz24 rfl hA766 rfl hi767 hj768) (fun W hO=>hO.selT (Ls:=[Blk b9 [VI a1.f0,.string a1.f1,VI a1.f2,.slice A5 a1.f3.length c6] 24]) [1] 3 rfl rfl rfl) ?_
      refine TA.take 6 rfl (by kernel_rfl) rfl (PQ.inB PQ.body) rfl (Val.loadsS (cs:=[VI y763.f0,.string y763.f1,VI y763.f2,.slice A772 y763.f3.length c773]) agg24 fsz24 rfl rfl (Cl.sub (off:=0) (n:=4) hcl769 rfl)) (fun W hO=>hO.selT (Ls:=[Blk b9 [VI a1.f0,.string a1.f1,VI a1.f2,.slice A5 a1.f3.length c6] 24]) [1] 3 rfl rfl rfl) ?_
      refine TK.sel (Ls:=[Blk b1 [.slice A2 a0_0.length c3] 46,Row Kd.string 9 (.slice A2 a0_0.length c3) a0_0,Blk b9 [VI a1.f0,.string a1.f1,VI a1.f2,.slice A5 a1.f3.length c6] 24]) [0,2,1] 3 rfl rfl rfl ?_
      obtain ⟨y776,hy777,h⟩:=bind_no h
      refine TA.eff 7 rfl (by kernel_rfl) rfl (TL.callV (Lin:=[Blk b1 [.slice A2 a0_0.length c3] 46,Row Kd.string 9 (.slice A2 a0_0.length c3) a0_0]) (args:=[VP b1 0,.string a1.f1,.agg #[VI y763.f0,.string y763.f1,VI y763.f2,.slice A772 y763.f3.length c773],.slice none 0 0]) rfl rfl rfl hbd34 rfl rfl (ih34 (a0_0:=a0_0) (a1:=a1.f1) (a2:=y763) (a3:=([]:List ByteArray)) hr774 hl775 (Rd.nil _ _) (Nat.le_refl 0) hy777) rfl ?_)
      rintro _ _ _ _ ⟨rfl,A778,c779,rfl,rfl⟩
      refine TA.next (fun W hO=>hO.selT (Ls:=[Blk b9 [VI a1.f0,.string a1.f1,VI a1.f2,.slice A5 a1.f3.length c6] 24]) [2] 3 rfl rfl rfl) ?_
      refine TA.done (by kernel_rfl) ?_
      refine TQ.inB ?_
      obtain rfl:=Option.some.inj h
      exact TQ.fin (.inr rfl) rfl Try.results20 .nil rfl (FRel.mk (Ls:=[Blk b1 [.slice A778 y776.length c779] 46,Row Kd.string 9 (.slice A778 y776.length c779) y776]) [0,1] 3 (Gd.le.refl _) rfl rfl rfl ⟨rfl,A778,c779,rfl,rfl⟩)
     ·
      refine TC.seq ?_
      refine TC.region ?_
      refine TV rfl rfl rfl (Val.fieldAddrB Try.underlying24 rfl fsz3 rfl rfl rfl) ?_
      refine TV rfl rfl rfl (Val.loadB 1 agg3 rfl rfl rfl) ?_
      refine TV rfl rfl rfl (Val.cmp rfl rfl run_lss) ?_
      refine TV rfl rfl rfl (Val.assign rfl) ?_
      refine TL.nil ?_
      refine TQ.then_ ?_
      refine TC.cond_p rfl h (fun hc798 h=>?_) (fun hc798 h=>?_)
      ·
       refine TC.region ?_
       refine TV rfl rfl rfl (Val.move rfl) ?_
       refine TV rfl rfl rfl (Val.loadsB 1 (cs:=[VI a1.f0,.string a1.f1,VI a1.f2,.slice A5 a1.f3.length c6]) agg24 fsz24 rfl rfl rfl rfl) ?_
       refine TK.sel (Ls:=[Blk b1 [.slice A2 a0_0.length c3] 46,Row Kd.string 9 (.slice A2 a0_0.length c3) a0_0,Blk b9 [VI a1.f0,.string a1.f1,VI a1.f2,.slice A5 a1.f3.length c6] 24]) [0,2,1] 3 rfl rfl rfl ?_
       obtain ⟨y799,hy800,h⟩:=bind_no h
       refine TL.cons (TL.callV (Lin:=[Blk b1 [.slice A2 a0_0.length c3] 46,Row Kd.string 9 (.slice A2 a0_0.length c3) a0_0]) (args:=[VP b1 0,.agg #[VI a1.f0,.string a1.f1,VI a1.f2,.slice A5 a1.f3.length c6]]) rfl rfl rfl hbd35 rfl rfl (ih35 (a0_0:=a0_0) (a1:=a1) hr7 hl8 hy800) rfl ?_)
       rintro _ _ _ _ ⟨rfl,A801,c802,rfl,rfl⟩
       refine TL.nil ?_
       refine TQ.inB ?_
       obtain rfl:=Option.some.inj h
       exact TQ.fin (.inr rfl) rfl Try.results20 .nil rfl (FRel.mk (Ls:=[Blk b1 [.slice A801 y799.length c802] 46,Row Kd.string 9 (.slice A801 y799.length c802) y799]) [0,1] 3 (Gd.le.refl _) rfl rfl rfl ⟨rfl,A801,c802,rfl,rfl⟩)
      ·
       refine TC.seq ?_
       refine TC.region ?_
       refine TV rfl rfl rfl (Val.fieldAddrB Try.underlying24 rfl fsz3 rfl rfl rfl) ?_
       refine TV rfl rfl rfl (Val.loadB 1 agg3 rfl rfl rfl) ?_
       refine TV rfl rfl rfl (Val.cmp rfl rfl run_lss) ?_
       refine TV rfl rfl rfl (Val.assign rfl) ?_
       refine TL.nil ?_
       refine TQ.then_ ?_
       refine TC.cond_p rfl h (fun hc815 h=>?_) (fun hc815 h=>?_)
       ·
        refine TC.region ?_
        refine TV rfl rfl rfl (Val.move rfl) ?_
        refine TV rfl rfl rfl (Val.loadsB 1 (cs:=[VI a1.f0,.string a1.f1,VI a1.f2,.slice A5 a1.f3.length c6]) agg24 fsz24 rfl rfl rfl rfl) ?_
        refine TK.sel (Ls:=[Blk b1 [.slice A2 a0_0.length c3] 46,Row Kd.string 9 (.slice A2 a0_0.length c3) a0_0,Blk b9 [VI a1.f0,.string a1.f1,VI a1.f2,.slice A5 a1.f3.length c6] 24]) [0,2,1] 3 rfl rfl rfl ?_
        obtain ⟨y816,hy817,h⟩:=bind_no h
        refine TL.cons (TL.callV (Lin:=[Blk b1 [.slice A2 a0_0.length c3] 46,Row Kd.string 9 (.slice A2 a0_0.length c3) a0_0]) (args:=[VP b1 0,.agg #[VI a1.f0,.string a1.f1,VI a1.f2,.slice A5 a1.f3.length c6]]) rfl rfl rfl hbd36 rfl rfl (ih36 (a0_0:=a0_0) (a1:=a1) hr7 hl8 hy817) rfl ?_)
        rintro _ _ _ _ ⟨rfl,A818,c819,rfl,rfl⟩
        refine TL.nil ?_
        refine TQ.inB ?_
        obtain rfl:=Option.some.inj h
        exact TQ.fin (.inr rfl) rfl Try.results20 .nil rfl (FRel.mk (Ls:=[Blk b1 [.slice A818 y816.length c819] 46,Row Kd.string 9 (.slice A818 y816.length c819) y816]) [0,1] 3 (Gd.le.refl _) rfl rfl rfl ⟨rfl,A818,c819,rfl,rfl⟩)
       ·
        refine TC.region ?_
        refine TV rfl rfl rfl (Val.move rfl) ?_
        refine TV rfl rfl rfl (Val.loadsB 1 (cs:=[VI a1.f0,.string a1.f1,VI a1.f2,.slice A5 a1.f3.length c6]) agg24 fsz24 rfl rfl rfl rfl) ?_
        refine TK.sel (Ls:=[Blk b1 [.slice A2 a0_0.length c3] 46,Row Kd.string 9 (.slice A2 a0_0.length c3) a0_0,Blk b9 [VI a1.f0,.string a1.f1,VI a1.f2,.slice A5 a1.f3.length c6] 24]) [0,2,1] 3 rfl rfl rfl ?_
        obtain ⟨y821,hy822,h⟩:=bind_no h
        refine TL.cons (TL.callV (Lin:=[Blk b1 [.slice A2 a0_0.length c3] 46,Row Kd.string 9 (.slice A2 a0_0.length c3) a0_0]) (args:=[VP b1 0,.agg #[VI a1.f0,.string a1.f1,VI a1.f2,.slice A5 a1.f3.length c6]]) rfl rfl rfl hbd37 rfl rfl (ih37 (a0_0:=a0_0) (a1:=a1) hr7 hl8 hy822) rfl ?_)
        rintro _ _ _ _ ⟨rfl,A823,c824,rfl,rfl⟩
        refine TL.nil ?_
        refine TQ.inB ?_
        obtain rfl:=Option.some.inj h
        exact TQ.fin (.inr rfl) rfl Try.results20 .nil rfl (FRel.mk (Ls:=[Blk b1 [.slice A823 y821.length c824] 46,Row Kd.string 9 (.slice A823 y821.length c824) y821]) [0,1] 3 (Gd.le.refl _) rfl rfl rfl ⟨rfl,A823,c824,rfl,rfl⟩)
 ·
  refine TC.region ?_
  refine TV rfl rfl rfl (Val.move rfl) ?_
  refine TV rfl rfl rfl (Val.cmp rfl rfl run_lss) ?_
  refine TV rfl rfl rfl (Val.move rfl) ?_
  refine TK.split (p:=y10 < 0) h (fun hg826 h=>?_) (fun hg826 h=>?_)
  ·
   have hk827:decide (y10 < 0)=true:=decide_eq_true hg826
   refine TL.cons (TL.not (Wt.no rfl rfl rfl hk827) rfl ?_)
   refine TL.cons (TL.not (Wt.no rfl rfl rfl hk827) rfl ?_)
   refine TL.cons (TL.not (Wt.no rfl rfl rfl hk827) rfl ?_)
   refine TL.cons (TL.not (Wt.no rfl rfl rfl hk827) rfl ?_)
   refine TL.cons (TL.not (Wt.no rfl rfl rfl hk827) rfl ?_)
   refine TV rfl rfl rfl (Val.pickY rfl hk827 rfl) ?_
   refine TV rfl rfl rfl (Val.assign rfl) ?_
   refine TL.nil ?_
   exact fun a W hF hO=>⟨true,h,hF.sub ⟨rfl,rfl,rfl,trivial⟩,hO.selT (Ls:=[Blk b1 [.slice A2 a0_0.length c3] 46,Blk b9 [VI a1.f0,.string a1.f1,VI a1.f2,.slice A5 a1.f3.length c6] 24,Row Kd.string 9 (.slice A2 a0_0.length c3) a0_0]) [1,0,2] 3 rfl rfl rfl⟩
  ·
   have hk828:decide (y10 < 0)=false:=decide_eq_false hg826
   refine TV (Wt.yes rfl rfl rfl hk828) rfl rfl (Val.fieldAddrB Try.underlying24 rfl fsz22 rfl rfl rfl) ?_
   refine TV (Wt.yes rfl rfl rfl hk828) rfl rfl (Val.loadB 0 agg22 rfl rfl rfl) ?_
   refine TV (Wt.yes rfl rfl rfl hk828) rfl rfl (Val.len Try.underlying22 rfl) ?_
   refine TV (Wt.yes rfl rfl rfl hk828) rfl rfl (Val.move rfl) ?_
   refine TV (Wt.yes rfl rfl rfl hk828) rfl rfl (Val.cmp rfl rfl run_lss) ?_
   refine TV rfl rfl rfl (Val.pickN rfl hk828 rfl) ?_
   refine TV rfl rfl rfl (Val.assign rfl) ?_
   refine TL.nil ?_
   exact fun a W hF hO=>⟨decide ((a1.f3.length:Int) < y10),h,hF.sub ⟨rfl,rfl,rfl,trivial⟩,hO.selT (Ls:=[Blk b1 [.slice A2 a0_0.length c3] 46,Blk b9 [VI a1.f0,.string a1.f1,VI a1.f2,.slice A5 a1.f3.length c6] 24,Row Kd.string 9 (.slice A2 a0_0.length c3) a0_0]) [1,0,2] 3 rfl rfl rfl⟩
def parse_writer_head.g (rec9:(S24 → Option ByteArray)) (rec20:((List ByteArray) → S24 → Option (List ByteArray))) (rec33:((List ByteArray) → S24 → Option (List ByteArray))) (rec34:((List ByteArray) → ByteArray → S24 → (List ByteArray) → Option (List ByteArray))) (rec35:((List ByteArray) → S24 → Option (List ByteArray))) (rec36:((List ByteArray) → S24 → Option (List ByteArray))) (rec37:((List ByteArray) → S24 → Option (List ByteArray))) (rec50:((List ByteArray) → (List S24) → ByteArray → Option (List ByteArray))) (a0_0:(List ByteArray)) (a1:S24):Option (List ByteArray):=(parse_writer_put.f a0_0 ([(⟨#[102,117,110,99]⟩:ByteArray),a1.f1,(⟨#[40]⟩:ByteArray)]:List ByteArray)).bind fun (y18:(List ByteArray))=>(cut? a1.f3 (0:Int) (IntKind.i64.wrap ((a1.f3.length:Int) - 2))).bind fun (y23:(List S24))=>(rec50 y18 y23 (⟨#[44]⟩:ByteArray)).bind fun (y27:(List ByteArray))=>(parse_writer_put.f y27 ([(⟨#[41]⟩:ByteArray)]:List ByteArray)).bind fun (y40:(List ByteArray))=>(cut? a1.f3 (IntKind.i64.wrap ((a1.f3.length:Int) - 2)) (a1.f3.length:Int)).bind fun (y45:(List S24))=>(rec50 y40 y45 (⟨#[]⟩:ByteArray)).bind fun (y49:(List ByteArray))=>some y49
theorem parse_writer_head.step (rec9:(S24 → Option ByteArray)) (rec20:((List ByteArray) → S24 → Option (List ByteArray))) (rec33:((List ByteArray) → S24 → Option (List ByteArray))) (rec34:((List ByteArray) → ByteArray → S24 → (List ByteArray) → Option (List ByteArray))) (rec35:((List ByteArray) → S24 → Option (List ByteArray))) (rec36:((List ByteArray) → S24 → Option (List ByteArray))) (rec37:((List ByteArray) → S24 → Option (List ByteArray))) (rec50:((List ByteArray) → (List S24) → ByteArray → Option (List ByteArray))) (ih9:∀ {G:Gd} {r:ByteArray} {a0:S24} {A1:Option Addr} {c2:Nat} (hr3:Rd G k24 A1 a0.f3) (hl4:a0.f3.length ≤ c2),rec9 a0=some r → Fn Try.prog 9 G [] [.agg #[VI a0.f0,.string a0.f1,VI a0.f2,.slice A1 a0.f3.length c2]] (parse_Text.post G  r)) (ih20:∀ {G:Gd} {r:(List ByteArray)} {a0_0:(List ByteArray)} {a1:S24} {b1:Nat} {A2:Option Addr} {c3:Nat} {A5:Option Addr} {c6:Nat} (hr7:Rd G k24 A5 a1.f3) (hl8:a1.f3.length ≤ c6),rec20 a0_0 a1=some r → Fn Try.prog 20 G [Blk b1 [.slice A2 a0_0.length c3] 46,Row Kd.string 9 (.slice A2 a0_0.length c3) a0_0] [VP b1 0,.agg #[VI a1.f0,.string a1.f1,VI a1.f2,.slice A5 a1.f3.length c6]] (parse_writer_node.post G b1 A2 c3 A5 c6 a0_0 a1 r)) (ih33:∀ {G:Gd} {r:(List ByteArray)} {a0_0:(List ByteArray)} {a1:S24} {b1:Nat} {A2:Option Addr} {c3:Nat} {A5:Option Addr} {c6:Nat} (hr7:Rd G k24 A5 a1.f3) (hl8:a1.f3.length ≤ c6),rec33 a0_0 a1=some r → Fn Try.prog 33 G [Blk b1 [.slice A2 a0_0.length c3] 46,Row Kd.string 9 (.slice A2 a0_0.length c3) a0_0] [VP b1 0,.agg #[VI a1.f0,.string a1.f1,VI a1.f2,.slice A5 a1.f3.length c6]] (parse_writer_head.post G b1 A2 c3 A5 c6 a0_0 a1 r)) (ih34:∀ {G:Gd} {r:(List ByteArray)} {a0_0:(List ByteArray)} {a1:ByteArray} {a2:S24} {a3:(List ByteArray)} {b1:Nat} {A2:Option Addr} {c3:Nat} {A5:Option Addr} {c6:Nat} {A9:Option Addr} {c10:Nat} (hr7:Rd G k24 A5 a2.f3) (hl8:a2.f3.length ≤ c6) (hr11:Rd G Kd.string A9 a3) (hl12:a3.length ≤ c10),rec34 a0_0 a1 a2 a3=some r → Fn Try.prog 34 G [Blk b1 [.slice A2 a0_0.length c3] 46,Row Kd.string 9 (.slice A2 a0_0.length c3) a0_0] [VP b1 0,.string a1,.agg #[VI a2.f0,.string a2.f1,VI a2.f2,.slice A5 a2.f3.length c6],.slice A9 a3.length c10] (parse_writer_around.post G b1 A2 c3 A5 c6 A9 c10 a0_0 a1 a2 a3 r)) (ih35:∀ {G:Gd} {r:(List ByteArray)} {a0_0:(List ByteArray)} {a1:S24} {b1:Nat} {A2:Option Addr} {c3:Nat} {A5:Option Addr} {c6:Nat} (hr7:Rd G k24 A5 a1.f3) (hl8:a1.f3.length ≤ c6),rec35 a0_0 a1=some r → Fn Try.prog 35 G [Blk b1 [.slice A2 a0_0.length c3] 46,Row Kd.string 9 (.slice A2 a0_0.length c3) a0_0] [VP b1 0,.agg #[VI a1.f0,.string a1.f1,VI a1.f2,.slice A5 a1.f3.length c6]] (parse_writer_typ.post G b1 A2 c3 A5 c6 a0_0 a1 r)) (ih36:∀ {G:Gd} {r:(List ByteArray)} {a0_0:(List ByteArray)} {a1:S24} {b1:Nat} {A2:Option Addr} {c3:Nat} {A5:Option Addr} {c6:Nat} (hr7:Rd G k24 A5 a1.f3) (hl8:a1.f3.length ≤ c6),rec36 a0_0 a1=some r → Fn Try.prog 36 G [Blk b1 [.slice A2 a0_0.length c3] 46,Row Kd.string 9 (.slice A2 a0_0.length c3) a0_0] [VP b1 0,.agg #[VI a1.f0,.string a1.f1,VI a1.f2,.slice A5 a1.f3.length c6]] (parse_writer_statement.post G b1 A2 c3 A5 c6 a0_0 a1 r)) (ih37:∀ {G:Gd} {r:(List ByteArray)} {a0_0:(List ByteArray)} {a1:S24} {b1:Nat} {A2:Option Addr} {c3:Nat} {A5:Option Addr} {c6:Nat} (hr7:Rd G k24 A5 a1.f3) (hl8:a1.f3.length ≤ c6),rec37 a0_0 a1=some r → Fn Try.prog 37 G [Blk b1 [.slice A2 a0_0.length c3] 46,Row Kd.string 9 (.slice A2 a0_0.length c3) a0_0] [VP b1 0,.agg #[VI a1.f0,.string a1.f1,VI a1.f2,.slice A5 a1.f3.length c6]] (parse_writer_expr.post G b1 A2 c3 A5 c6 a0_0 a1 r)) (ih50:∀ {G:Gd} {r:(List ByteArray)} {a0_0:(List ByteArray)} {a1:(List S24)} {a2:ByteArray} {b1:Nat} {A2:Option Addr} {c3:Nat} {A5:Option Addr} {c6:Nat} (hr7:Rd G k24 A5 a1) (hl8:a1.length ≤ c6),rec50 a0_0 a1 a2=some r → Fn Try.prog 50 G [Blk b1 [.slice A2 a0_0.length c3] 46,Row Kd.string 9 (.slice A2 a0_0.length c3) a0_0] [VP b1 0,.slice A5 a1.length c6,.string a2] (parse_writer_list.post G b1 A2 c3 A5 c6 a0_0 a1 a2 r)) {G:Gd} {r:(List ByteArray)} {a0_0:(List ByteArray)} {a1:S24} {b1:Nat} {A2:Option Addr} {c3:Nat} {A5:Option Addr} {c6:Nat} (hr7:Rd G k24 A5 a1.f3) (hl8:a1.f3.length ≤ c6) (h:parse_writer_head.g rec9 rec20 rec33 rec34 rec35 rec36 rec37 rec50 a0_0 a1=some r):Fn Try.prog 33 G [Blk b1 [.slice A2 a0_0.length c3] 46,Row Kd.string 9 (.slice A2 a0_0.length c3) a0_0] [VP b1 0,.agg #[VI a1.f0,.string a1.f1,VI a1.f2,.slice A5 a1.f3.length c6]] (parse_writer_head.post G b1 A2 c3 A5 c6 a0_0 a1 r):=by
 refine Fn.intro (e:=[(0,VP b1 0),(1,.agg #[VI a1.f0,.string a1.f1,VI a1.f2,.slice A5 a1.f3.length c6])]) 29 Try.func33 rfl Try.ntmps33 rfl rfl (Nat.le_of_ble_eq_true rfl) (fun L=>?_)
 unfold parse_writer_head.g at h
 refine TC.seq ?_
 refine TC.region ?_
 refine TL.cons (TL.box (cs:=[VI a1.f0,.string a1.f1,VI a1.f2,.slice A5 a1.f3.length c6]) rfl rfl rfl rfl (fun b9=>?_))
 refine TL.nil ?_
 refine TQ.then_ ?_
 refine TC.seq ?_
 refine TC.region ?_
 refine TV rfl rfl rfl (Val.fieldAddrB Try.underlying24 rfl fsz22 rfl rfl rfl) ?_
 refine TV rfl rfl rfl (Val.loadB 0 agg22 rfl rfl rfl) ?_
 refine TV rfl rfl rfl (Val.len Try.underlying22 rfl) ?_
 refine TV rfl rfl rfl (Val.cmp rfl rfl run_sub) ?_
 refine TV rfl rfl rfl (Val.assign rfl) ?_
 refine TL.nil ?_
 refine TQ.then_ ?_
 refine TC.seq ?_
 refine TC.region ?_
 refine TV rfl rfl rfl (Val.move rfl) ?_
 refine TV rfl rfl rfl (Val.fieldAddrB Try.underlying24 rfl fsz9 rfl rfl rfl) ?_
 refine TV rfl rfl rfl (Val.loadB 0 agg9 rfl rfl rfl) ?_
 refine TL.cons (TL.buildSlice (xs:=[.const (.string (⟨#[102,117,110,99]⟩:ByteArray)),.tmp 11,.const (.string (⟨#[40]⟩:ByteArray))]) (vs:=[.string (⟨#[102,117,110,99]⟩:ByteArray),.string a1.f1,.string (⟨#[40]⟩:ByteArray)]) (cs:=[.string (⟨#[102,117,110,99]⟩:ByteArray),.string a1.f1,.string (⟨#[40]⟩:ByteArray)]) rfl rfl Try.underlying44 zs9 rfl rfl rfl rfl rfl rfl rfl rfl (fun b10=>?_))
 refine TK.new (Els.nil Kd.string) ?_
 refine TK.new (El.of (k:=Kd.string) (xv:=(⟨#[102,117,110,99]⟩:ByteArray)) (cs:=[.string (⟨#[102,117,110,99]⟩:ByteArray)]) (fun W B=>rfl)) ?_
 refine TK.sel (Ls:=[Els Kd.string [] [],El Kd.string (⟨#[102,117,110,99]⟩:ByteArray) [.string (⟨#[102,117,110,99]⟩:ByteArray)],Blk b10 [.string (⟨#[102,117,110,99]⟩:ByteArray),.string a1.f1,.string (⟨#[40]⟩:ByteArray)] 9,Blk b9 [VI a1.f0,.string a1.f1,VI a1.f2,.slice A5 a1.f3.length c6] 24,Blk b1 [.slice A2 a0_0.length c3] 46,Row Kd.string 9 (.slice A2 a0_0.length c3) a0_0]) [1,0,2,3,4,5] 6 rfl rfl rfl ?_
 refine TK.two (ch:=Els Kd.string [(⟨#[102,117,110,99]⟩:ByteArray)] [.string (⟨#[102,117,110,99]⟩:ByteArray)]) (Els.snoc Kd.string) ?_
 refine TK.new (El.of (k:=Kd.string) (xv:=a1.f1) (cs:=[.string a1.f1]) (fun W B=>rfl)) ?_
 refine TK.sel (Ls:=[Els Kd.string [(⟨#[102,117,110,99]⟩:ByteArray)] [.string (⟨#[102,117,110,99]⟩:ByteArray)],El Kd.string a1.f1 [.string a1.f1],Blk b10 [.string (⟨#[102,117,110,99]⟩:ByteArray),.string a1.f1,.string (⟨#[40]⟩:ByteArray)] 9,Blk b9 [VI a1.f0,.string a1.f1,VI a1.f2,.slice A5 a1.f3.length c6] 24,Blk b1 [.slice A2 a0_0.length c3] 46,Row Kd.string 9 (.slice A2 a0_0.length c3) a0_0]) [1,0,2,3,4,5] 6 rfl rfl rfl ?_
 refine TK.two (ch:=Els Kd.string [(⟨#[102,117,110,99]⟩:ByteArray),a1.f1] [.string (⟨#[102,117,110,99]⟩:ByteArray),.string a1.f1]) (Els.snoc Kd.string) ?_
 refine TK.new (El.of (k:=Kd.string) (xv:=(⟨#[40]⟩:ByteArray)) (cs:=[.string (⟨#[40]⟩:ByteArray)]) (fun W B=>rfl)) ?_
 refine TK.sel (Ls:=[Els Kd.string [(⟨#[102,117,110,99]⟩:ByteArray),a1.f1] [.string (⟨#[102,117,110,99]⟩:ByteArray),.string a1.f1],El Kd.string (⟨#[40]⟩:ByteArray) [.string (⟨#[40]⟩:ByteArray)],Blk b10 [.string (⟨#[102,117,110,99]⟩:ByteArray),.string a1.f1,.string (⟨#[40]⟩:ByteArray)] 9,Blk b9 [VI a1.f0,.string a1.f1,VI a1.f2,.slice A5 a1.f3.length c6] 24,Blk b1 [.slice A2 a0_0.length c3] 46,Row Kd.string 9 (.slice A2 a0_0.length c3) a0_0]) [1,0,2,3,4,5] 6 rfl rfl rfl ?_
 refine TK.two (ch:=Els Kd.string [(⟨#[102,117,110,99]⟩:ByteArray),a1.f1,(⟨#[40]⟩:ByteArray)] [.string (⟨#[102,117,110,99]⟩:ByteArray),.string a1.f1,.string (⟨#[40]⟩:ByteArray)]) (Els.snoc Kd.string) ?_
 refine TK.sel (Ls:=[Blk b10 [.string (⟨#[102,117,110,99]⟩:ByteArray),.string a1.f1,.string (⟨#[40]⟩:ByteArray)] 9,Els Kd.string [(⟨#[102,117,110,99]⟩:ByteArray),a1.f1,(⟨#[40]⟩:ByteArray)] [.string (⟨#[102,117,110,99]⟩:ByteArray),.string a1.f1,.string (⟨#[40]⟩:ByteArray)],Blk b9 [VI a1.f0,.string a1.f1,VI a1.f2,.slice A5 a1.f3.length c6] 24,Blk b1 [.slice A2 a0_0.length c3] 46,Row Kd.string 9 (.slice A2 a0_0.length c3) a0_0]) [1,0,2,3,4] 5 rfl rfl rfl ?_
 refine TK.two (ch:=Row Kd.string 9 (.slice (some ⟨b10,0,none⟩) 3 3) ([(⟨#[102,117,110,99]⟩:ByteArray),a1.f1,(⟨#[40]⟩:ByteArray)]:List ByteArray)) (Row.lit Kd.string rfl rfl) ?_
 refine TK.share (fun G12 e13 hs14 hb15=>?_)
 have rd16:Rd G12 Kd.string (some ⟨b10,0,none⟩) ([(⟨#[102,117,110,99]⟩:ByteArray),a1.f1,(⟨#[40]⟩:ByteArray)]:List ByteArray):=Rd.row hs14
 have le17:([(⟨#[102,117,110,99]⟩:ByteArray),a1.f1,(⟨#[40]⟩:ByteArray)]:List ByteArray).length ≤ 3:=Row.le hs14
 refine TK.sel (Ls:=[Blk b1 [.slice A2 a0_0.length c3] 46,Row Kd.string 9 (.slice A2 a0_0.length c3) a0_0,Blk b9 [VI a1.f0,.string a1.f1,VI a1.f2,.slice A5 a1.f3.length c6] 24]) [1,2,0] 3 rfl rfl rfl ?_
 obtain ⟨y18,hy19,h⟩:=bind_no h
 refine TL.cons (TL.callV (Lin:=[Blk b1 [.slice A2 a0_0.length c3] 46,Row Kd.string 9 (.slice A2 a0_0.length c3) a0_0]) (args:=[VP b1 0,.slice (some ⟨b10,0,none⟩) 3 3]) rfl rfl rfl hbd32 rfl rfl (parse_writer_put.calls (a0_0:=a0_0) (a1:=([(⟨#[102,117,110,99]⟩:ByteArray),a1.f1,(⟨#[40]⟩:ByteArray)]:List ByteArray)) rd16 le17 hy19) rfl ?_)
 rintro _ _ _ _ ⟨rfl,A20,c21,rfl,rfl⟩
 refine TL.nil ?_
 refine TQ.then_ ?_
 refine TC.seq ?_
 refine TC.region ?_
 refine TV rfl rfl rfl (Val.move rfl) ?_
 refine TV rfl rfl rfl (Val.fieldAddrB Try.underlying24 rfl fsz22 rfl rfl rfl) ?_
 refine TV rfl rfl rfl (Val.loadB 2 agg22 rfl rfl rfl) ?_
 refine TV rfl rfl rfl (Val.move rfl) ?_
 obtain ⟨y23,hy24,h⟩:=bind_no h
 obtain ⟨hr25,hl26⟩:=Rd.cut (hr7.up e13) hl8 hy24
 refine TV rfl rfl rfl (Val.cut Try.underlying22 fsz24 rfl rfl hl8 rfl rfl hy24) ?_
 obtain ⟨y27,hy28,h⟩:=bind_no h
 refine TL.cons (TL.callV (Lin:=[Blk b1 [.slice A20 y18.length c21] 46,Row Kd.string 9 (.slice A20 y18.length c21) y18]) (args:=[VP b1 0,.slice (cutA A5 c6 (0:Int).toNat 4) y23.length (c6 - (0:Int).toNat),.string (⟨#[44]⟩:ByteArray)]) rfl rfl rfl hbd50 rfl rfl (ih50 (a0_0:=y18) (a1:=y23) (a2:=(⟨#[44]⟩:ByteArray)) hr25 hl26 hy28) rfl ?_)
 rintro _ _ _ _ ⟨rfl,A29,c30,rfl,rfl⟩
 refine TL.nil ?_
 refine TQ.then_ ?_
 refine TC.seq ?_
 refine TC.region ?_
 refine TV rfl rfl rfl (Val.move rfl) ?_
 refine TL.cons (TL.buildSlice (xs:=[.const (.string (⟨#[41]⟩:ByteArray))]) (vs:=[.string (⟨#[41]⟩:ByteArray)]) (cs:=[.string (⟨#[41]⟩:ByteArray)]) rfl rfl Try.underlying44 zs9 rfl rfl rfl rfl rfl rfl rfl rfl (fun b32=>?_))
 refine TK.new (Els.nil Kd.string) ?_
 refine TK.new (El.of (k:=Kd.string) (xv:=(⟨#[41]⟩:ByteArray)) (cs:=[.string (⟨#[41]⟩:ByteArray)]) (fun W B=>rfl)) ?_
 refine TK.sel (Ls:=[Els Kd.string [] [],El Kd.string (⟨#[41]⟩:ByteArray) [.string (⟨#[41]⟩:ByteArray)],Blk b32 [.string (⟨#[41]⟩:ByteArray)] 9,Blk b1 [.slice A29 y27.length c30] 46,Row Kd.string 9 (.slice A29 y27.length c30) y27,Blk b9 [VI a1.f0,.string a1.f1,VI a1.f2,.slice A5 a1.f3.length c6] 24]) [1,0,2,3,4,5] 6 rfl rfl rfl ?_
 refine TK.two (ch:=Els Kd.string [(⟨#[41]⟩:ByteArray)] [.string (⟨#[41]⟩:ByteArray)]) (Els.snoc Kd.string) ?_
 refine TK.sel (Ls:=[Blk b32 [.string (⟨#[41]⟩:ByteArray)] 9,Els Kd.string [(⟨#[41]⟩:ByteArray)] [.string (⟨#[41]⟩:ByteArray)],Blk b1 [.slice A29 y27.length c30] 46,Row Kd.string 9 (.slice A29 y27.length c30) y27,Blk b9 [VI a1.f0,.string a1.f1,VI a1.f2,.slice A5 a1.f3.length c6] 24]) [1,0,2,3,4] 5 rfl rfl rfl ?_
 refine TK.two (ch:=Row Kd.string 9 (.slice (some ⟨b32,0,none⟩) 1 1) ([(⟨#[41]⟩:ByteArray)]:List ByteArray)) (Row.lit Kd.string rfl rfl) ?_
 refine TK.share (fun G34 e35 hs36 hb37=>?_)
 have rd38:Rd G34 Kd.string (some ⟨b32,0,none⟩) ([(⟨#[41]⟩:ByteArray)]:List ByteArray):=Rd.row hs36
 have le39:([(⟨#[41]⟩:ByteArray)]:List ByteArray).length ≤ 1:=Row.le hs36
 obtain ⟨y40,hy41,h⟩:=bind_no h
 refine TL.cons (TL.callV (Lin:=[Blk b1 [.slice A29 y27.length c30] 46,Row Kd.string 9 (.slice A29 y27.length c30) y27]) (args:=[VP b1 0,.slice (some ⟨b32,0,none⟩) 1 1]) rfl rfl rfl hbd32 rfl rfl (parse_writer_put.calls (a0_0:=y27) (a1:=([(⟨#[41]⟩:ByteArray)]:List ByteArray)) rd38 le39 hy41) rfl ?_)
 rintro _ _ _ _ ⟨rfl,A42,c43,rfl,rfl⟩
 refine TL.nil ?_
 refine TQ.then_ ?_
 refine TC.region ?_
 refine TV rfl rfl rfl (Val.move rfl) ?_
 refine TV rfl rfl rfl (Val.fieldAddrB Try.underlying24 rfl fsz22 rfl rfl rfl) ?_
 refine TV rfl rfl rfl (Val.loadB 2 agg22 rfl rfl rfl) ?_
 refine TV rfl rfl rfl (Val.move rfl) ?_
 obtain ⟨y45,hy46,h⟩:=bind_no h
 obtain ⟨hr47,hl48⟩:=Rd.cut (hr7.up (Gd.le.trans e13 e35)) hl8 hy46
 refine TV rfl rfl rfl (Val.cut Try.underlying22 fsz24 rfl rfl hl8 rfl rfl hy46) ?_
 obtain ⟨y49,hy50,h⟩:=bind_no h
 refine TL.cons (TL.callV (Lin:=[Blk b1 [.slice A42 y40.length c43] 46,Row Kd.string 9 (.slice A42 y40.length c43) y40]) (args:=[VP b1 0,.slice (cutA A5 c6 (IntKind.i64.wrap ((a1.f3.length:Int) - 2)).toNat 4) y45.length (c6 - (IntKind.i64.wrap ((a1.f3.length:Int) - 2)).toNat),.string (⟨#[]⟩:ByteArray)]) rfl rfl rfl hbd50 rfl rfl (ih50 (a0_0:=y40) (a1:=y45) (a2:=(⟨#[]⟩:ByteArray)) hr47 hl48 hy50) rfl ?_)
 rintro _ _ _ _ ⟨rfl,A51,c52,rfl,rfl⟩
 refine TL.nil ?_
 refine TQ.back hb37 ?_
 refine TQ.back hb15 ?_
 obtain rfl:=Option.some.inj h
 exact TQ.fin (.inr rfl) rfl Try.results33 .nil rfl (FRel.mk (Ls:=[Blk b1 [.slice A51 y49.length c52] 46,Row Kd.string 9 (.slice A51 y49.length c52) y49]) [2,3] 5 (Gd.le.refl _) rfl rfl rfl ⟨rfl,A51,c52,rfl,rfl⟩)
def parse_writer_around.g (rec9:(S24 → Option ByteArray)) (rec20:((List ByteArray) → S24 → Option (List ByteArray))) (rec33:((List ByteArray) → S24 → Option (List ByteArray))) (rec34:((List ByteArray) → ByteArray → S24 → (List ByteArray) → Option (List ByteArray))) (rec35:((List ByteArray) → S24 → Option (List ByteArray))) (rec36:((List ByteArray) → S24 → Option (List ByteArray))) (rec37:((List ByteArray) → S24 → Option (List ByteArray))) (rec50:((List ByteArray) → (List S24) → ByteArray → Option (List ByteArray))) (a0_0:(List ByteArray)) (a1:ByteArray) (a2:S24) (a3:(List ByteArray)):Option (List ByteArray):=(parse_writer_put.f a0_0 ([a1]:List ByteArray)).bind fun (y22:(List ByteArray))=>(rec20 y22 a2).bind fun (y27:(List ByteArray))=>(parse_writer_put.f y27 a3).bind fun (y32:(List ByteArray))=>some y32
theorem parse_writer_around.step (rec9:(S24 → Option ByteArray)) (rec20:((List ByteArray) → S24 → Option (List ByteArray))) (rec33:((List ByteArray) → S24 → Option (List ByteArray))) (rec34:((List ByteArray) → ByteArray → S24 → (List ByteArray) → Option (List ByteArray))) (rec35:((List ByteArray) → S24 → Option (List ByteArray))) (rec36:((List ByteArray) → S24 → Option (List ByteArray))) (rec37:((List ByteArray) → S24 → Option (List ByteArray))) (rec50:((List ByteArray) → (List S24) → ByteArray → Option (List ByteArray))) (ih9:∀ {G:Gd} {r:ByteArray} {a0:S24} {A1:Option Addr} {c2:Nat} (hr3:Rd G k24 A1 a0.f3) (hl4:a0.f3.length ≤ c2),rec9 a0=some r → Fn Try.prog 9 G [] [.agg #[VI a0.f0,.string a0.f1,VI a0.f2,.slice A1 a0.f3.length c2]] (parse_Text.post G  r)) (ih20:∀ {G:Gd} {r:(List ByteArray)} {a0_0:(List ByteArray)} {a1:S24} {b1:Nat} {A2:Option Addr} {c3:Nat} {A5:Option Addr} {c6:Nat} (hr7:Rd G k24 A5 a1.f3) (hl8:a1.f3.length ≤ c6),rec20 a0_0 a1=some r → Fn Try.prog 20 G [Blk b1 [.slice A2 a0_0.length c3] 46,Row Kd.string 9 (.slice A2 a0_0.length c3) a0_0] [VP b1 0,.agg #[VI a1.f0,.string a1.f1,VI a1.f2,.slice A5 a1.f3.length c6]] (parse_writer_node.post G b1 A2 c3 A5 c6 a0_0 a1 r)) (ih33:∀ {G:Gd} {r:(List ByteArray)} {a0_0:(List ByteArray)} {a1:S24} {b1:Nat} {A2:Option Addr} {c3:Nat} {A5:Option Addr} {c6:Nat} (hr7:Rd G k24 A5 a1.f3) (hl8:a1.f3.length ≤ c6),rec33 a0_0 a1=some r → Fn Try.prog 33 G [Blk b1 [.slice A2 a0_0.length c3] 46,Row Kd.string 9 (.slice A2 a0_0.length c3) a0_0] [VP b1 0,.agg #[VI a1.f0,.string a1.f1,VI a1.f2,.slice A5 a1.f3.length c6]] (parse_writer_head.post G b1 A2 c3 A5 c6 a0_0 a1 r)) (ih34:∀ {G:Gd} {r:(List ByteArray)} {a0_0:(List ByteArray)} {a1:ByteArray} {a2:S24} {a3:(List ByteArray)} {b1:Nat} {A2:Option Addr} {c3:Nat} {A5:Option Addr} {c6:Nat} {A9:Option Addr} {c10:Nat} (hr7:Rd G k24 A5 a2.f3) (hl8:a2.f3.length ≤ c6) (hr11:Rd G Kd.string A9 a3) (hl12:a3.length ≤ c10),rec34 a0_0 a1 a2 a3=some r → Fn Try.prog 34 G [Blk b1 [.slice A2 a0_0.length c3] 46,Row Kd.string 9 (.slice A2 a0_0.length c3) a0_0] [VP b1 0,.string a1,.agg #[VI a2.f0,.string a2.f1,VI a2.f2,.slice A5 a2.f3.length c6],.slice A9 a3.length c10] (parse_writer_around.post G b1 A2 c3 A5 c6 A9 c10 a0_0 a1 a2 a3 r)) (ih35:∀ {G:Gd} {r:(List ByteArray)} {a0_0:(List ByteArray)} {a1:S24} {b1:Nat} {A2:Option Addr} {c3:Nat} {A5:Option Addr} {c6:Nat} (hr7:Rd G k24 A5 a1.f3) (hl8:a1.f3.length ≤ c6),rec35 a0_0 a1=some r → Fn Try.prog 35 G [Blk b1 [.slice A2 a0_0.length c3] 46,Row Kd.string 9 (.slice A2 a0_0.length c3) a0_0] [VP b1 0,.agg #[VI a1.f0,.string a1.f1,VI a1.f2,.slice A5 a1.f3.length c6]] (parse_writer_typ.post G b1 A2 c3 A5 c6 a0_0 a1 r)) (ih36:∀ {G:Gd} {r:(List ByteArray)} {a0_0:(List ByteArray)} {a1:S24} {b1:Nat} {A2:Option Addr} {c3:Nat} {A5:Option Addr} {c6:Nat} (hr7:Rd G k24 A5 a1.f3) (hl8:a1.f3.length ≤ c6),rec36 a0_0 a1=some r → Fn Try.prog 36 G [Blk b1 [.slice A2 a0_0.length c3] 46,Row Kd.string 9 (.slice A2 a0_0.length c3) a0_0] [VP b1 0,.agg #[VI a1.f0,.string a1.f1,VI a1.f2,.slice A5 a1.f3.length c6]] (parse_writer_statement.post G b1 A2 c3 A5 c6 a0_0 a1 r)) (ih37:∀ {G:Gd} {r:(List ByteArray)} {a0_0:(List ByteArray)} {a1:S24} {b1:Nat} {A2:Option Addr} {c3:Nat} {A5:Option Addr} {c6:Nat} (hr7:Rd G k24 A5 a1.f3) (hl8:a1.f3.length ≤ c6),rec37 a0_0 a1=some r → Fn Try.prog 37 G [Blk b1 [.slice A2 a0_0.length c3] 46,Row Kd.string 9 (.slice A2 a0_0.length c3) a0_0] [VP b1 0,.agg #[VI a1.f0,.string a1.f1,VI a1.f2,.slice A5 a1.f3.length c6]] (parse_writer_expr.post G b1 A2 c3 A5 c6 a0_0 a1 r)) (ih50:∀ {G:Gd} {r:(List ByteArray)} {a0_0:(List ByteArray)} {a1:(List S24)} {a2:ByteArray} {b1:Nat} {A2:Option Addr} {c3:Nat} {A5:Option Addr} {c6:Nat} (hr7:Rd G k24 A5 a1) (hl8:a1.length ≤ c6),rec50 a0_0 a1 a2=some r → Fn Try.prog 50 G [Blk b1 [.slice A2 a0_0.length c3] 46,Row Kd.string 9 (.slice A2 a0_0.length c3) a0_0] [VP b1 0,.slice A5 a1.length c6,.string a2] (parse_writer_list.post G b1 A2 c3 A5 c6 a0_0 a1 a2 r)) {G:Gd} {r:(List ByteArray)} {a0_0:(List ByteArray)} {a1:ByteArray} {a2:S24} {a3:(List ByteArray)} {b1:Nat} {A2:Option Addr} {c3:Nat} {A5:Option Addr} {c6:Nat} {A9:Option Addr} {c10:Nat} (hr7:Rd G k24 A5 a2.f3) (hl8:a2.f3.length ≤ c6) (hr11:Rd G Kd.string A9 a3) (hl12:a3.length ≤ c10) (h:parse_writer_around.g rec9 rec20 rec33 rec34 rec35 rec36 rec37 rec50 a0_0 a1 a2 a3=some r):Fn Try.prog 34 G [Blk b1 [.slice A2 a0_0.length c3] 46,Row Kd.string 9 (.slice A2 a0_0.length c3) a0_0] [VP b1 0,.string a1,.agg #[VI a2.f0,.string a2.f1,VI a2.f2,.slice A5 a2.f3.length c6],.slice A9 a3.length c10] (parse_writer_around.post G b1 A2 c3 A5 c6 A9 c10 a0_0 a1 a2 a3 r):=by
 refine Fn.intro (e:=[(0,VP b1 0),(1,.string a1),(2,.agg #[VI a2.f0,.string a2.f1,VI a2.f2,.slice A5 a2.f3.length c6]),(3,.slice A9 a3.length c10)]) 18 Try.func34 rfl Try.ntmps34 rfl rfl (Nat.le_of_ble_eq_true rfl) (fun L=>?_)
 unfold parse_writer_around.g at h
 refine TC.seq ?_
 refine TC.region ?_
 refine TL.cons (TL.box (cs:=[VI a2.f0,.string a2.f1,VI a2.f2,.slice A5 a2.f3.length c6]) rfl rfl rfl rfl (fun b13=>?_))
 refine TL.nil ?_
 refine TQ.then_ ?_
 refine TC.seq ?_
 refine TC.region ?_
 refine TV rfl rfl rfl (Val.move rfl) ?_
 refine TV rfl rfl rfl (Val.move rfl) ?_
 refine TL.cons (TL.buildSlice (xs:=[.tmp 9]) (vs:=[.string a1]) (cs:=[.string a1]) rfl rfl Try.underlying44 zs9 rfl rfl rfl rfl rfl rfl rfl rfl (fun b14=>?_))
 refine TK.new (Els.nil Kd.string) ?_
 refine TK.new (El.of (k:=Kd.string) (xv:=a1) (cs:=[.string a1]) (fun W B=>rfl)) ?_
 refine TK.sel (Ls:=[Els Kd.string [] [],El Kd.string a1 [.string a1],Blk b14 [.string a1] 9,Blk b13 [VI a2.f0,.string a2.f1,VI a2.f2,.slice A5 a2.f3.length c6] 24,Blk b1 [.slice A2 a0_0.length c3] 46,Row Kd.string 9 (.slice A2 a0_0.length c3) a0_0]) [1,0,2,3,4,5] 6 rfl rfl rfl ?_
 refine TK.two (ch:=Els Kd.string [a1] [.string a1]) (Els.snoc Kd.string) ?_
 refine TK.sel (Ls:=[Blk b14 [.string a1] 9,Els Kd.string [a1] [.string a1],Blk b13 [VI a2.f0,.string a2.f1,VI a2.f2,.slice A5 a2.f3.length c6] 24,Blk b1 [.slice A2 a0_0.length c3] 46,Row Kd.string 9 (.slice A2 a0_0.length c3) a0_0]) [1,0,2,3,4] 5 rfl rfl rfl ?_
 refine TK.two (ch:=Row Kd.string 9 (.slice (some ⟨b14,0,none⟩) 1 1) ([a1]:List ByteArray)) (Row.lit Kd.string rfl rfl) ?_
 refine TK.share (fun G16 e17 hs18 hb19=>?_)
 have rd20:Rd G16 Kd.string (some ⟨b14,0,none⟩) ([a1]:List ByteArray):=Rd.row hs18
 have le21:([a1]:List ByteArray).length ≤ 1:=Row.le hs18
 refine TK.sel (Ls:=[Blk b1 [.slice A2 a0_0.length c3] 46,Row Kd.string 9 (.slice A2 a0_0.length c3) a0_0,Blk b13 [VI a2.f0,.string a2.f1,VI a2.f2,.slice A5 a2.f3.length c6] 24]) [1,2,0] 3 rfl rfl rfl ?_
 obtain ⟨y22,hy23,h⟩:=bind_no h
 refine TL.cons (TL.callV (Lin:=[Blk b1 [.slice A2 a0_0.length c3] 46,Row Kd.string 9 (.slice A2 a0_0.length c3) a0_0]) (args:=[VP b1 0,.slice (some ⟨b14,0,none⟩) 1 1]) rfl rfl rfl hbd32 rfl rfl (parse_writer_put.calls (a0_0:=a0_0) (a1:=([a1]:List ByteArray)) rd20 le21 hy23) rfl ?_)
 rintro _ _ _ _ ⟨rfl,A24,c25,rfl,rfl⟩
 refine TL.nil ?_
 refine TQ.then_ ?_
 refine TC.seq ?_
 refine TC.region ?_
 refine TV rfl rfl rfl (Val.move rfl) ?_
 refine TV rfl rfl rfl (Val.loadsB 2 (cs:=[VI a2.f0,.string a2.f1,VI a2.f2,.slice A5 a2.f3.length c6]) agg24 fsz24 rfl rfl rfl rfl) ?_
 obtain ⟨y27,hy28,h⟩:=bind_no h
 refine TL.cons (TL.callV (Lin:=[Blk b1 [.slice A24 y22.length c25] 46,Row Kd.string 9 (.slice A24 y22.length c25) y22]) (args:=[VP b1 0,.agg #[VI a2.f0,.string a2.f1,VI a2.f2,.slice A5 a2.f3.length c6]]) rfl rfl rfl hbd20 rfl rfl (ih20 (a0_0:=y22) (a1:=a2) (hr7.up e17) hl8 hy28) rfl ?_)
 rintro _ _ _ _ ⟨rfl,A29,c30,rfl,rfl⟩
 refine TL.nil ?_
 refine TQ.then_ ?_
 refine TC.region ?_
 refine TV rfl rfl rfl (Val.move rfl) ?_
 refine TV rfl rfl rfl (Val.move rfl) ?_
 obtain ⟨y32,hy33,h⟩:=bind_no h
 refine TL.cons (TL.callV (Lin:=[Blk b1 [.slice A29 y27.length c30] 46,Row Kd.string 9 (.slice A29 y27.length c30) y27]) (args:=[VP b1 0,.slice A9 a3.length c10]) rfl rfl rfl hbd32 rfl rfl (parse_writer_put.calls (a0_0:=y27) (a1:=a3) (hr11.up e17) hl12 hy33) rfl ?_)
 rintro _ _ _ _ ⟨rfl,A34,c35,rfl,rfl⟩
 refine TL.nil ?_
 refine TQ.back hb19 ?_
 obtain rfl:=Option.some.inj h
 exact TQ.fin (.inr rfl) rfl Try.results34 .nil rfl (FRel.mk (Ls:=[Blk b1 [.slice A34 y32.length c35] 46,Row Kd.string 9 (.slice A34 y32.length c35) y32]) [1,2] 4 (Gd.le.refl _) rfl rfl rfl ⟨rfl,A34,c35,rfl,rfl⟩)
def parse_writer_typ.g (rec9:(S24 → Option ByteArray)) (rec20:((List ByteArray) → S24 → Option (List ByteArray))) (rec33:((List ByteArray) → S24 → Option (List ByteArray))) (rec34:((List ByteArray) → ByteArray → S24 → (List ByteArray) → Option (List ByteArray))) (rec35:((List ByteArray) → S24 → Option (List ByteArray))) (rec36:((List ByteArray) → S24 → Option (List ByteArray))) (rec37:((List ByteArray) → S24 → Option (List ByteArray))) (rec50:((List ByteArray) → (List S24) → ByteArray → Option (List ByteArray))) (a0_0:(List ByteArray)) (a1:S24):Option (List ByteArray):=(if a1.f0=5 then (parse_writer_put.f a0_0 ([(⟨#[105,110,116]⟩:ByteArray)]:List ByteArray)).bind fun (y494:(List ByteArray))=>some y494 else (if a1.f0=6 then (at? a1.f3 0).bind fun y583=>(rec34 a0_0 (⟨#[42]⟩:ByteArray) y583 ([]:List ByteArray)).bind fun (y596:(List ByteArray))=>some y596 else (if a1.f0=7 then (parse_writer_put.f a0_0 ([(⟨#[91]⟩:ByteArray),a1.f1]:List ByteArray)).bind fun (y674:(List ByteArray))=>(at? a1.f3 0).bind fun y679=>(rec34 y674 (⟨#[93]⟩:ByteArray) y679 ([]:List ByteArray)).bind fun (y692:(List ByteArray))=>some y692 else (if a1.f0=8 then (parse_writer_put.f a0_0 ([(⟨#[40]⟩:ByteArray)]:List ByteArray)).bind fun (y738:(List ByteArray))=>(rec50 y738 a1.f3 (⟨#[44]⟩:ByteArray)).bind fun (y743:(List ByteArray))=>(parse_writer_put.f y743 ([(⟨#[41]⟩:ByteArray)]:List ByteArray)).bind fun (y756:(List ByteArray))=>some y756 else some a0_0))))
theorem parse_writer_typ.step (rec9:(S24 → Option ByteArray)) (rec20:((List ByteArray) → S24 → Option (List ByteArray))) (rec33:((List ByteArray) → S24 → Option (List ByteArray))) (rec34:((List ByteArray) → ByteArray → S24 → (List ByteArray) → Option (List ByteArray))) (rec35:((List ByteArray) → S24 → Option (List ByteArray))) (rec36:((List ByteArray) → S24 → Option (List ByteArray))) (rec37:((List ByteArray) → S24 → Option (List ByteArray))) (rec50:((List ByteArray) → (List S24) → ByteArray → Option (List ByteArray))) (ih9:∀ {G:Gd} {r:ByteArray} {a0:S24} {A1:Option Addr} {c2:Nat} (hr3:Rd G k24 A1 a0.f3) (hl4:a0.f3.length ≤ c2),rec9 a0=some r → Fn Try.prog 9 G [] [.agg #[VI a0.f0,.string a0.f1,VI a0.f2,.slice A1 a0.f3.length c2]] (parse_Text.post G  r)) (ih20:∀ {G:Gd} {r:(List ByteArray)} {a0_0:(List ByteArray)} {a1:S24} {b1:Nat} {A2:Option Addr} {c3:Nat} {A5:Option Addr} {c6:Nat} (hr7:Rd G k24 A5 a1.f3) (hl8:a1.f3.length ≤ c6),rec20 a0_0 a1=some r → Fn Try.prog 20 G [Blk b1 [.slice A2 a0_0.length c3] 46,Row Kd.string 9 (.slice A2 a0_0.length c3) a0_0] [VP b1 0,.agg #[VI a1.f0,.string a1.f1,VI a1.f2,.slice A5 a1.f3.length c6]] (parse_writer_node.post G b1 A2 c3 A5 c6 a0_0 a1 r)) (ih33:∀ {G:Gd} {r:(List ByteArray)} {a0_0:(List ByteArray)} {a1:S24} {b1:Nat} {A2:Option Addr} {c3:Nat} {A5:Option Addr} {c6:Nat} (hr7:Rd G k24 A5 a1.f3) (hl8:a1.f3.length ≤ c6),rec33 a0_0 a1=some r → Fn Try.prog 33 G [Blk b1 [.slice A2 a0_0.length c3] 46,Row Kd.string 9 (.slice A2 a0_0.length c3) a0_0] [VP b1 0,.agg #[VI a1.f0,.string a1.f1,VI a1.f2,.slice A5 a1.f3.length c6]] (parse_writer_head.post G b1 A2 c3 A5 c6 a0_0 a1 r)) (ih34:∀ {G:Gd} {r:(List ByteArray)} {a0_0:(List ByteArray)} {a1:ByteArray} {a2:S24} {a3:(List ByteArray)} {b1:Nat} {A2:Option Addr} {c3:Nat} {A5:Option Addr} {c6:Nat} {A9:Option Addr} {c10:Nat} (hr7:Rd G k24 A5 a2.f3) (hl8:a2.f3.length ≤ c6) (hr11:Rd G Kd.string A9 a3) (hl12:a3.length ≤ c10),rec34 a0_0 a1 a2 a3=some r → Fn Try.prog 34 G [Blk b1 [.slice A2 a0_0.length c3] 46,Row Kd.string 9 (.slice A2 a0_0.length c3) a0_0] [VP b1 0,.string a1,.agg #[VI a2.f0,.string a2.f1,VI a2.f2,.slice A5 a2.f3.length c6],.slice A9 a3.length c10] (parse_writer_around.post G b1 A2 c3 A5 c6 A9 c10 a0_0 a1 a2 a3 r)) (ih35:∀ {G:Gd} {r:(List ByteArray)} {a0_0:(List ByteArray)} {a1:S24} {b1:Nat} {A2:Option Addr} {c3:Nat} {A5:Option Addr} {c6:Nat} (hr7:Rd G k24 A5 a1.f3) (hl8:a1.f3.length ≤ c6),rec35 a0_0 a1=some r → Fn Try.prog 35 G [Blk b1 [.slice A2 a0_0.length c3] 46,Row Kd.string 9 (.slice A2 a0_0.length c3) a0_0] [VP b1 0,.agg #[VI a1.f0,.string a1.f1,VI a1.f2,.slice A5 a1.f3.length c6]] (parse_writer_typ.post G b1 A2 c3 A5 c6 a0_0 a1 r)) (ih36:∀ {G:Gd} {r:(List ByteArray)} {a0_0:(List ByteArray)} {a1:S24} {b1:Nat} {A2:Option Addr} {c3:Nat} {A5:Option Addr} {c6:Nat} (hr7:Rd G k24 A5 a1.f3) (hl8:a1.f3.length ≤ c6),rec36 a0_0 a1=some r → Fn Try.prog 36 G [Blk b1 [.slice A2 a0_0.length c3] 46,Row Kd.string 9 (.slice A2 a0_0.length c3) a0_0] [VP b1 0,.agg #[VI a1.f0,.string a1.f1,VI a1.f2,.slice A5 a1.f3.length c6]] (parse_writer_statement.post G b1 A2 c3 A5 c6 a0_0 a1 r)) (ih37:∀ {G:Gd} {r:(List ByteArray)} {a0_0:(List ByteArray)} {a1:S24} {b1:Nat} {A2:Option Addr} {c3:Nat} {A5:Option Addr} {c6:Nat} (hr7:Rd G k24 A5 a1.f3) (hl8:a1.f3.length ≤ c6),rec37 a0_0 a1=some r → Fn Try.prog 37 G [Blk b1 [.slice A2 a0_0.length c3] 46,Row Kd.string 9 (.slice A2 a0_0.length c3) a0_0] [VP b1 0,.agg #[VI a1.f0,.string a1.f1,VI a1.f2,.slice A5 a1.f3.length c6]] (parse_writer_expr.post G b1 A2 c3 A5 c6 a0_0 a1 r)) (ih50:∀ {G:Gd} {r:(List ByteArray)} {a0_0:(List ByteArray)} {a1:(List S24)} {a2:ByteArray} {b1:Nat} {A2:Option Addr} {c3:Nat} {A5:Option Addr} {c6:Nat} (hr7:Rd G k24 A5 a1) (hl8:a1.length ≤ c6),rec50 a0_0 a1 a2=some r → Fn Try.prog 50 G [Blk b1 [.slice A2 a0_0.length c3] 46,Row Kd.string 9 (.slice A2 a0_0.length c3) a0_0] [VP b1 0,.slice A5 a1.length c6,.string a2] (parse_writer_list.post G b1 A2 c3 A5 c6 a0_0 a1 a2 r)) {G:Gd} {r:(List ByteArray)} {a0_0:(List ByteArray)} {a1:S24} {b1:Nat} {A2:Option Addr} {c3:Nat} {A5:Option Addr} {c6:Nat} (hr7:Rd G k24 A5 a1.f3) (hl8:a1.f3.length ≤ c6) (h:parse_writer_typ.g rec9 rec20 rec33 rec34 rec35 rec36 rec37 rec50 a0_0 a1=some r):Fn Try.prog 35 G [Blk b1 [.slice A2 a0_0.length c3] 46,Row Kd.string 9 (.slice A2 a0_0.length c3) a0_0] [VP b1 0,.agg #[VI a1.f0,.string a1.f1,VI a1.f2,.slice A5 a1.f3.length c6]] (parse_writer_typ.post G b1 A2 c3 A5 c6 a0_0 a1 r):=by
 refine Fn.intro (e:=[(0,VP b1 0),(1,.agg #[VI a1.f0,.string a1.f1,VI a1.f2,.slice A5 a1.f3.length c6])]) 44 Try.func35 rfl Try.ntmps35 rfl rfl (Nat.le_of_ble_eq_true rfl) (fun L=>?_)
 unfold parse_writer_typ.g at h
 refine TC.seq ?_
 refine TC.region ?_
 refine TL.cons (TL.box (cs:=[VI a1.f0,.string a1.f1,VI a1.f2,.slice A5 a1.f3.length c6]) rfl rfl rfl rfl (fun b9=>?_))
 refine TL.nil ?_
 refine TQ.then_ ?_
 refine TC.seq ?_
 refine TC.region ?_
 refine TV rfl rfl rfl (Val.fieldAddrB Try.underlying24 rfl fsz3 rfl rfl rfl) ?_
 refine TV rfl rfl rfl (Val.loadB 0 agg3 rfl rfl rfl) ?_
 refine TL.nil ?_
 refine TQ.then_ ?_
 refine TC.block ?_
 refine TC.seq ?_
 refine TC.region ?_
 refine TV rfl rfl rfl (Val.cmp rfl rfl run_eql) ?_
 refine TV rfl rfl rfl (Val.assign rfl) ?_
 refine TL.nil ?_
 refine TQ.then_ ?_
 refine TC.cond_p rfl h (fun hc485 h=>?_) (fun hc485 h=>?_)
 ·
  refine TC.region ?_
  refine TV rfl rfl rfl (Val.move rfl) ?_
  refine TL.cons (TL.buildSlice (xs:=[.const (.string (⟨#[105,110,116]⟩:ByteArray))]) (vs:=[.string (⟨#[105,110,116]⟩:ByteArray)]) (cs:=[.string (⟨#[105,110,116]⟩:ByteArray)]) rfl rfl Try.underlying44 zs9 rfl rfl rfl rfl rfl rfl rfl rfl (fun b486=>?_))
  refine TK.new (Els.nil Kd.string) ?_
  refine TK.new (El.of (k:=Kd.string) (xv:=(⟨#[105,110,116]⟩:ByteArray)) (cs:=[.string (⟨#[105,110,116]⟩:ByteArray)]) (fun W B=>rfl)) ?_
  refine TK.sel (Ls:=[Els Kd.string [] [],El Kd.string (⟨#[105,110,116]⟩:ByteArray) [.string (⟨#[105,110,116]⟩:ByteArray)],Blk b486 [.string (⟨#[105,110,116]⟩:ByteArray)] 9,Blk b9 [VI a1.f0,.string a1.f1,VI a1.f2,.slice A5 a1.f3.length c6] 24,Blk b1 [.slice A2 a0_0.length c3] 46,Row Kd.string 9 (.slice A2 a0_0.length c3) a0_0]) [1,0,2,3,4,5] 6 rfl rfl rfl ?_
  refine TK.two (ch:=Els Kd.string [(⟨#[105,110,116]⟩:ByteArray)] [.string (⟨#[105,110,116]⟩:ByteArray)]) (Els.snoc Kd.string) ?_
  refine TK.sel (Ls:=[Blk b486 [.string (⟨#[105,110,116]⟩:ByteArray)] 9,Els Kd.string [(⟨#[105,110,116]⟩:ByteArray)] [.string (⟨#[105,110,116]⟩:ByteArray)],Blk b9 [VI a1.f0,.string a1.f1,VI a1.f2,.slice A5 a1.f3.length c6] 24,Blk b1 [.slice A2 a0_0.length c3] 46,Row Kd.string 9 (.slice A2 a0_0.length c3) a0_0]) [1,0,2,3,4] 5 rfl rfl rfl ?_
  refine TK.two (ch:=Row Kd.string 9 (.slice (some ⟨b486,0,none⟩) 1 1) ([(⟨#[105,110,116]⟩:ByteArray)]:List ByteArray)) (Row.lit Kd.string rfl rfl) ?_
  refine TK.share (fun G488 e489 hs490 hb491=>?_)
  have rd492:Rd G488 Kd.string (some ⟨b486,0,none⟩) ([(⟨#[105,110,116]⟩:ByteArray)]:List ByteArray):=Rd.row hs490
  have le493:([(⟨#[105,110,116]⟩:ByteArray)]:List ByteArray).length ≤ 1:=Row.le hs490
  refine TK.sel (Ls:=[Blk b1 [.slice A2 a0_0.length c3] 46,Row Kd.string 9 (.slice A2 a0_0.length c3) a0_0,Blk b9 [VI a1.f0,.string a1.f1,VI a1.f2,.slice A5 a1.f3.length c6] 24]) [1,2,0] 3 rfl rfl rfl ?_
  obtain ⟨y494,hy495,h⟩:=bind_no h
  refine TL.cons (TL.callV (Lin:=[Blk b1 [.slice A2 a0_0.length c3] 46,Row Kd.string 9 (.slice A2 a0_0.length c3) a0_0]) (args:=[VP b1 0,.slice (some ⟨b486,0,none⟩) 1 1]) rfl rfl rfl hbd32 rfl rfl (parse_writer_put.calls (a0_0:=a0_0) (a1:=([(⟨#[105,110,116]⟩:ByteArray)]:List ByteArray)) rd492 le493 hy495) rfl ?_)
  rintro _ _ _ _ ⟨rfl,A496,c497,rfl,rfl⟩
  refine TL.nil ?_
  refine TQ.inB ?_
  refine TQ.back hb491 ?_
  obtain rfl:=Option.some.inj h
  exact TQ.fin (.inr rfl) rfl Try.results35 .nil rfl (FRel.mk (Ls:=[Blk b1 [.slice A496 y494.length c497] 46,Row Kd.string 9 (.slice A496 y494.length c497) y494]) [1,2] 4 (Gd.le.refl _) rfl rfl rfl ⟨rfl,A496,c497,rfl,rfl⟩)
 ·
  refine TC.seq ?_
  refine TC.region ?_
  refine TV rfl rfl rfl (Val.cmp rfl rfl run_eql) ?_
  refine TV rfl rfl rfl (Val.assign rfl) ?_
  refine TL.nil ?_
  refine TQ.then_ ?_
  refine TC.cond_p rfl h (fun hc582 h=>?_) (fun hc582 h=>?_)
  ·
   refine TC.region ?_
   refine TV rfl rfl rfl (Val.move rfl) ?_
   refine TV rfl rfl rfl (Val.fieldAddrB Try.underlying24 rfl fsz22 rfl rfl rfl) ?_
   refine TV rfl rfl rfl (Val.loadB 0 agg22 rfl rfl rfl) ?_
   obtain ⟨y583,hx584,h⟩:=bind_no h
   obtain ⟨ad585,cs591,hA586,hi587,hj588,hcl589,hK590⟩:=Rd.at hr7 hx584
   obtain ⟨A592,c593,rfl,hr594,hl595⟩:=k24_openR hK590
   refine TV rfl rfl rfl (Val.indexAddr Try.underlying22 fsz24 rfl hA586 rfl hi587 hj588) ?_
   refine TV rfl rfl rfl (Val.loadsS (cs:=[VI y583.f0,.string y583.f1,VI y583.f2,.slice A592 y583.f3.length c593]) agg24 fsz24 rfl rfl (Cl.sub (off:=0) (n:=4) hcl589 rfl)) ?_
   refine TK.sel (Ls:=[Blk b1 [.slice A2 a0_0.length c3] 46,Row Kd.string 9 (.slice A2 a0_0.length c3) a0_0,Blk b9 [VI a1.f0,.string a1.f1,VI a1.f2,.slice A5 a1.f3.length c6] 24]) [1,2,0] 3 rfl rfl rfl ?_
   obtain ⟨y596,hy597,h⟩:=bind_no h
   refine TL.cons (TL.callV (Lin:=[Blk b1 [.slice A2 a0_0.length c3] 46,Row Kd.string 9 (.slice A2 a0_0.length c3) a0_0]) (args:=[VP b1 0,.string (⟨#[42]⟩:ByteArray),.agg #[VI y583.f0,.string y583.f1,VI y583.f2,.slice A592 y583.f3.length c593],.slice none 0 0]) rfl rfl rfl hbd34 rfl rfl (ih34 (a0_0:=a0_0) (a1:=(⟨#[42]⟩:ByteArray)) (a2:=y583) (a3:=([]:List ByteArray)) hr594 hl595 (Rd.nil _ _) (Nat.le_refl 0) hy597) rfl ?_)
   rintro _ _ _ _ ⟨rfl,A598,c599,rfl,rfl⟩
   refine TL.nil ?_
   refine TQ.inB ?_
   obtain rfl:=Option.some.inj h
   exact TQ.fin (.inr rfl) rfl Try.results35 .nil rfl (FRel.mk (Ls:=[Blk b1 [.slice A598 y596.length c599] 46,Row Kd.string 9 (.slice A598 y596.length c599) y596]) [0,1] 3 (Gd.le.refl _) rfl rfl rfl ⟨rfl,A598,c599,rfl,rfl⟩)
  ·
   refine TC.seq ?_
   refine TC.region ?_
   refine TV rfl rfl rfl (Val.cmp rfl rfl run_eql) ?_
   refine TV rfl rfl rfl (Val.assign rfl) ?_
   refine TL.nil ?_
   refine TQ.then_ ?_
   refine TC.cond_p rfl h (fun hc665 h=>?_) (fun hc665 h=>?_)
   ·
    refine TC.seq ?_
    refine TC.region ?_
    refine TV rfl rfl rfl (Val.move rfl) ?_
    refine TV rfl rfl rfl (Val.fieldAddrB Try.underlying24 rfl fsz9 rfl rfl rfl) ?_
    refine TV rfl rfl rfl (Val.loadB 0 agg9 rfl rfl rfl) ?_
    refine TL.cons (TL.buildSlice (xs:=[.const (.string (⟨#[91]⟩:ByteArray)),.tmp 23]) (vs:=[.string (⟨#[91]⟩:ByteArray),.string a1.f1]) (cs:=[.string (⟨#[91]⟩:ByteArray),.string a1.f1]) rfl rfl Try.underlying44 zs9 rfl rfl rfl rfl rfl rfl rfl rfl (fun b666=>?_))
    refine TK.new (Els.nil Kd.string) ?_
    refine TK.new (El.of (k:=Kd.string) (xv:=(⟨#[91]⟩:ByteArray)) (cs:=[.string (⟨#[91]⟩:ByteArray)]) (fun W B=>rfl)) ?_
    refine TK.sel (Ls:=[Els Kd.string [] [],El Kd.string (⟨#[91]⟩:ByteArray) [.string (⟨#[91]⟩:ByteArray)],Blk b666 [.string (⟨#[91]⟩:ByteArray),.string a1.f1] 9,Blk b9 [VI a1.f0,.string a1.f1,VI a1.f2,.slice A5 a1.f3.length c6] 24,Blk b1 [.slice A2 a0_0.length c3] 46,Row Kd.string 9 (.slice A2 a0_0.length c3) a0_0]) [1,0,2,3,4,5] 6 rfl rfl rfl ?_
    refine TK.two (ch:=Els Kd.string [(⟨#[91]⟩:ByteArray)] [.string (⟨#[91]⟩:ByteArray)]) (Els.snoc Kd.string) ?_
    refine TK.new (El.of (k:=Kd.string) (xv:=a1.f1) (cs:=[.string a1.f1]) (fun W B=>rfl)) ?_
    refine TK.sel (Ls:=[Els Kd.string [(⟨#[91]⟩:ByteArray)] [.string (⟨#[91]⟩:ByteArray)],El Kd.string a1.f1 [.string a1.f1],Blk b666 [.string (⟨#[91]⟩:ByteArray),.string a1.f1] 9,Blk b9 [VI a1.f0,.string a1.f1,VI a1.f2,.slice A5 a1.f3.length c6] 24,Blk b1 [.slice A2 a0_0.length c3] 46,Row Kd.string 9 (.slice A2 a0_0.length c3) a0_0]) [1,0,2,3,4,5] 6 rfl rfl rfl ?_
    refine TK.two (ch:=Els Kd.string [(⟨#[91]⟩:ByteArray),a1.f1] [.string (⟨#[91]⟩:ByteArray),.string a1.f1]) (Els.snoc Kd.string) ?_
    refine TK.sel (Ls:=[Blk b666 [.string (⟨#[91]⟩:ByteArray),.string a1.f1] 9,Els Kd.string [(⟨#[91]⟩:ByteArray),a1.f1] [.string (⟨#[91]⟩:ByteArray),.string a1.f1],Blk b9 [VI a1.f0,.string a1.f1,VI a1.f2,.slice A5 a1.f3.length c6] 24,Blk b1 [.slice A2 a0_0.length c3] 46,Row Kd.string 9 (.slice A2 a0_0.length c3) a0_0]) [1,0,2,3,4] 5 rfl rfl rfl ?_
    refine TK.two (ch:=Row Kd.string 9 (.slice (some ⟨b666,0,none⟩) 2 2) ([(⟨#[91]⟩:ByteArray),a1.f1]:List ByteArray)) (Row.lit Kd.string rfl rfl) ?_
    refine TK.share (fun G668 e669 hs670 hb671=>?_)
    have rd672:Rd G668 Kd.string (some ⟨b666,0,none⟩) ([(⟨#[91]⟩:ByteArray),a1.f1]:List ByteArray):=Rd.row hs670
    have le673:([(⟨#[91]⟩:ByteArray),a1.f1]:List ByteArray).length ≤ 2:=Row.le hs670
    refine TK.sel (Ls:=[Blk b1 [.slice A2 a0_0.length c3] 46,Row Kd.string 9 (.slice A2 a0_0.length c3) a0_0,Blk b9 [VI a1.f0,.string a1.f1,VI a1.f2,.slice A5 a1.f3.length c6] 24]) [1,2,0] 3 rfl rfl rfl ?_
    obtain ⟨y674,hy675,h⟩:=bind_no h
    refine TL.cons (TL.callV (Lin:=[Blk b1 [.slice A2 a0_0.length c3] 46,Row Kd.string 9 (.slice A2 a0_0.length c3) a0_0]) (args:=[VP b1 0,.slice (some ⟨b666,0,none⟩) 2 2]) rfl rfl rfl hbd32 rfl rfl (parse_writer_put.calls (a0_0:=a0_0) (a1:=([(⟨#[91]⟩:ByteArray),a1.f1]:List ByteArray)) rd672 le673 hy675) rfl ?_)
    rintro _ _ _ _ ⟨rfl,A676,c677,rfl,rfl⟩
    refine TL.nil ?_
    refine TQ.then_ ?_
    refine TC.region ?_
    refine TV rfl rfl rfl (Val.move rfl) ?_
    refine TV rfl rfl rfl (Val.fieldAddrB Try.underlying24 rfl fsz22 rfl rfl rfl) ?_
    refine TV rfl rfl rfl (Val.loadB 2 agg22 rfl rfl rfl) ?_
    obtain ⟨y679,hx680,h⟩:=bind_no h
    obtain ⟨ad681,cs687,hA682,hi683,hj684,hcl685,hK686⟩:=Rd.at (hr7.up e669) hx680
    obtain ⟨A688,c689,rfl,hr690,hl691⟩:=k24_openR hK686
    refine TV rfl rfl rfl (Val.indexAddr Try.underlying22 fsz24 rfl hA682 rfl hi683 hj684) ?_
    refine TV rfl rfl rfl (Val.loadsS (cs:=[VI y679.f0,.string y679.f1,VI y679.f2,.slice A688 y679.f3.length c689]) agg24 fsz24 rfl rfl (Cl.sub (off:=0) (n:=4) hcl685 rfl)) ?_
    obtain ⟨y692,hy693,h⟩:=bind_no h
    refine TL.cons (TL.callV (Lin:=[Blk b1 [.slice A676 y674.length c677] 46,Row Kd.string 9 (.slice A676 y674.length c677) y674]) (args:=[VP b1 0,.string (⟨#[93]⟩:ByteArray),.agg #[VI y679.f0,.string y679.f1,VI y679.f2,.slice A688 y679.f3.length c689],.slice none 0 0]) rfl rfl rfl hbd34 rfl rfl (ih34 (a0_0:=y674) (a1:=(⟨#[93]⟩:ByteArray)) (a2:=y679) (a3:=([]:List ByteArray)) hr690 hl691 (Rd.nil _ _) (Nat.le_refl 0) hy693) rfl ?_)
    rintro _ _ _ _ ⟨rfl,A694,c695,rfl,rfl⟩
    refine TL.nil ?_
    refine TQ.inB ?_
    refine TQ.back hb671 ?_
    obtain rfl:=Option.some.inj h
    exact TQ.fin (.inr rfl) rfl Try.results35 .nil rfl (FRel.mk (Ls:=[Blk b1 [.slice A694 y692.length c695] 46,Row Kd.string 9 (.slice A694 y692.length c695) y692]) [1,2] 4 (Gd.le.refl _) rfl rfl rfl ⟨rfl,A694,c695,rfl,rfl⟩)
   ·
    refine TC.seq ?_
    refine TC.region ?_
    refine TV rfl rfl rfl (Val.cmp rfl rfl run_eql) ?_
    refine TV rfl rfl rfl (Val.assign rfl) ?_
    refine TL.nil ?_
    refine TQ.then_ ?_
    refine TC.cond_p rfl h (fun hc729 h=>?_) (fun hc729 h=>?_)
    ·
     refine TC.seq ?_
     refine TC.region ?_
     refine TV rfl rfl rfl (Val.move rfl) ?_
     refine TL.cons (TL.buildSlice (xs:=[.const (.string (⟨#[40]⟩:ByteArray))]) (vs:=[.string (⟨#[40]⟩:ByteArray)]) (cs:=[.string (⟨#[40]⟩:ByteArray)]) rfl rfl Try.underlying44 zs9 rfl rfl rfl rfl rfl rfl rfl rfl (fun b730=>?_))
     refine TK.new (Els.nil Kd.string) ?_
     refine TK.new (El.of (k:=Kd.string) (xv:=(⟨#[40]⟩:ByteArray)) (cs:=[.string (⟨#[40]⟩:ByteArray)]) (fun W B=>rfl)) ?_
     refine TK.sel (Ls:=[Els Kd.string [] [],El Kd.string (⟨#[40]⟩:ByteArray) [.string (⟨#[40]⟩:ByteArray)],Blk b730 [.string (⟨#[40]⟩:ByteArray)] 9,Blk b9 [VI a1.f0,.string a1.f1,VI a1.f2,.slice A5 a1.f3.length c6] 24,Blk b1 [.slice A2 a0_0.length c3] 46,Row Kd.string 9 (.slice A2 a0_0.length c3) a0_0]) [1,0,2,3,4,5] 6 rfl rfl rfl ?_
     refine TK.two (ch:=Els Kd.string [(⟨#[40]⟩:ByteArray)] [.string (⟨#[40]⟩:ByteArray)]) (Els.snoc Kd.string) ?_
     refine TK.sel (Ls:=[Blk b730 [.string (⟨#[40]⟩:ByteArray)] 9,Els Kd.string [(⟨#[40]⟩:ByteArray)] [.string (⟨#[40]⟩:ByteArray)],Blk b9 [VI a1.f0,.string a1.f1,VI a1.f2,.slice A5 a1.f3.length c6] 24,Blk b1 [.slice A2 a0_0.length c3] 46,Row Kd.string 9 (.slice A2 a0_0.length c3) a0_0]) [1,0,2,3,4] 5 rfl rfl rfl ?_
     refine TK.two (ch:=Row Kd.string 9 (.slice (some ⟨b730,0,none⟩) 1 1) ([(⟨#[40]⟩:ByteArray)]:List ByteArray)) (Row.lit Kd.string rfl rfl) ?_
     refine TK.share (fun G732 e733 hs734 hb735=>?_)
     have rd736:Rd G732 Kd.string (some ⟨b730,0,none⟩) ([(⟨#[40]⟩:ByteArray)]:List ByteArray):=Rd.row hs734
     have le737:([(⟨#[40]⟩:ByteArray)]:List ByteArray).length ≤ 1:=Row.le hs734
     refine TK.sel (Ls:=[Blk b1 [.slice A2 a0_0.length c3] 46,Row Kd.string 9 (.slice A2 a0_0.length c3) a0_0,Blk b9 [VI a1.f0,.string a1.f1,VI a1.f2,.slice A5 a1.f3.length c6] 24]) [1,2,0] 3 rfl rfl rfl ?_
     obtain ⟨y738,hy739,h⟩:=bind_no h
     refine TL.cons (TL.callV (Lin:=[Blk b1 [.slice A2 a0_0.length c3] 46,Row Kd.string 9 (.slice A2 a0_0.length c3) a0_0]) (args:=[VP b1 0,.slice (some ⟨b730,0,none⟩) 1 1]) rfl rfl rfl hbd32 rfl rfl (parse_writer_put.calls (a0_0:=a0_0) (a1:=([(⟨#[40]⟩:ByteArray)]:List ByteArray)) rd736 le737 hy739) rfl ?_)
     rintro _ _ _ _ ⟨rfl,A740,c741,rfl,rfl⟩
     refine TL.nil ?_
     refine TQ.then_ ?_
     refine TC.seq ?_
     refine TC.region ?_
     refine TV rfl rfl rfl (Val.move rfl) ?_
     refine TV rfl rfl rfl (Val.fieldAddrB Try.underlying24 rfl fsz22 rfl rfl rfl) ?_
     refine TV rfl rfl rfl (Val.loadB 2 agg22 rfl rfl rfl) ?_
     obtain ⟨y743,hy744,h⟩:=bind_no h
     refine TL.cons (TL.callV (Lin:=[Blk b1 [.slice A740 y738.length c741] 46,Row Kd.string 9 (.slice A740 y738.length c741) y738]) (args:=[VP b1 0,.slice A5 a1.f3.length c6,.string (⟨#[44]⟩:ByteArray)]) rfl rfl rfl hbd50 rfl rfl (ih50 (a0_0:=y738) (a1:=a1.f3) (a2:=(⟨#[44]⟩:ByteArray)) (hr7.up e733) hl8 hy744) rfl ?_)
     rintro _ _ _ _ ⟨rfl,A745,c746,rfl,rfl⟩
     refine TL.nil ?_
     refine TQ.then_ ?_
     refine TC.region ?_
     refine TV rfl rfl rfl (Val.move rfl) ?_
     refine TL.cons (TL.buildSlice (xs:=[.const (.string (⟨#[41]⟩:ByteArray))]) (vs:=[.string (⟨#[41]⟩:ByteArray)]) (cs:=[.string (⟨#[41]⟩:ByteArray)]) rfl rfl Try.underlying44 zs9 rfl rfl rfl rfl rfl rfl rfl rfl (fun b748=>?_))
     refine TK.new (Els.nil Kd.string) ?_
     refine TK.new (El.of (k:=Kd.string) (xv:=(⟨#[41]⟩:ByteArray)) (cs:=[.string (⟨#[41]⟩:ByteArray)]) (fun W B=>rfl)) ?_
     refine TK.sel (Ls:=[Els Kd.string [] [],El Kd.string (⟨#[41]⟩:ByteArray) [.string (⟨#[41]⟩:ByteArray)],Blk b748 [.string (⟨#[41]⟩:ByteArray)] 9,Blk b1 [.slice A745 y743.length c746] 46,Row Kd.string 9 (.slice A745 y743.length c746) y743,Blk b9 [VI a1.f0,.string a1.f1,VI a1.f2,.slice A5 a1.f3.length c6] 24]) [1,0,2,3,4,5] 6 rfl rfl rfl ?_
     refine TK.two (ch:=Els Kd.string [(⟨#[41]⟩:ByteArray)] [.string (⟨#[41]⟩:ByteArray)]) (Els.snoc Kd.string) ?_
     refine TK.sel (Ls:=[Blk b748 [.string (⟨#[41]⟩:ByteArray)] 9,Els Kd.string [(⟨#[41]⟩:ByteArray)] [.string (⟨#[41]⟩:ByteArray)],Blk b1 [.slice A745 y743.length c746] 46,Row Kd.string 9 (.slice A745 y743.length c746) y743,Blk b9 [VI a1.f0,.string a1.f1,VI a1.f2,.slice A5 a1.f3.length c6] 24]) [1,0,2,3,4] 5 rfl rfl rfl ?_
     refine TK.two (ch:=Row Kd.string 9 (.slice (some ⟨b748,0,none⟩) 1 1) ([(⟨#[41]⟩:ByteArray)]:List ByteArray)) (Row.lit Kd.string rfl rfl) ?_
     refine TK.share (fun G750 e751 hs752 hb753=>?_)
     have rd754:Rd G750 Kd.string (some ⟨b748,0,none⟩) ([(⟨#[41]⟩:ByteArray)]:List ByteArray):=Rd.row hs752
     have le755:([(⟨#[41]⟩:ByteArray)]:List ByteArray).length ≤ 1:=Row.le hs752
     obtain ⟨y756,hy757,h⟩:=bind_no h
     refine TL.cons (TL.callV (Lin:=[Blk b1 [.slice A745 y743.length c746] 46,Row Kd.string 9 (.slice A745 y743.length c746) y743]) (args:=[VP b1 0,.slice (some ⟨b748,0,none⟩) 1 1]) rfl rfl rfl hbd32 rfl rfl (parse_writer_put.calls (a0_0:=y743) (a1:=([(⟨#[41]⟩:ByteArray)]:List ByteArray)) rd754 le755 hy757) rfl ?_)
     rintro _ _ _ _ ⟨rfl,A758,c759,rfl,rfl⟩
     refine TL.nil ?_
     refine TQ.inB ?_
     refine TQ.back hb753 ?_
     refine TQ.back hb735 ?_
     obtain rfl:=Option.some.inj h
     exact TQ.fin (.inr rfl) rfl Try.results35 .nil rfl (FRel.mk (Ls:=[Blk b1 [.slice A758 y756.length c759] 46,Row Kd.string 9 (.slice A758 y756.length c759) y756]) [2,3] 5 (Gd.le.refl _) rfl rfl rfl ⟨rfl,A758,c759,rfl,rfl⟩)
    ·
     refine TC.skip ?_
     refine TQ.inB ?_
     obtain rfl:=Option.some.inj h
     exact TQ.fin (.inr rfl) rfl Try.results35 .nil rfl (FRel.mk (Ls:=[Blk b1 [.slice A2 a0_0.length c3] 46,Row Kd.string 9 (.slice A2 a0_0.length c3) a0_0]) [1,2] 3 (Gd.le.refl _) rfl rfl rfl ⟨rfl,A2,c3,rfl,rfl⟩)
def parse_writer_statement.g (rec9:(S24 → Option ByteArray)) (rec20:((List ByteArray) → S24 → Option (List ByteArray))) (rec33:((List ByteArray) → S24 → Option (List ByteArray))) (rec34:((List ByteArray) → ByteArray → S24 → (List ByteArray) → Option (List ByteArray))) (rec35:((List ByteArray) → S24 → Option (List ByteArray))) (rec36:((List ByteArray) → S24 → Option (List ByteArray))) (rec37:((List ByteArray) → S24 → Option (List ByteArray))) (rec50:((List ByteArray) → (List S24) → ByteArray → Option (List ByteArray))) (a0_0:(List ByteArray)) (a1:S24):Option (List ByteArray):=(if a1.f0=9 then (parse_writer_put.f a0_0 ([(⟨#[123]⟩:ByteArray)]:List ByteArray)).bind fun (y1882:(List ByteArray))=>(rec50 y1882 a1.f3 (⟨#[]⟩:ByteArray)).bind fun (y1887:(List ByteArray))=>(parse_writer_put.f y1887 ([(⟨#[125]⟩:ByteArray)]:List ByteArray)).bind fun (y1900:(List ByteArray))=>some y1900 else (if a1.f0=10 then (parse_writer_put.f a0_0 ([(⟨#[118,97,114]⟩:ByteArray)]:List ByteArray)).bind fun (y2188:(List ByteArray))=>(at? a1.f3 0).bind fun y2219=>(rec34 y2188 a1.f1 y2219 ([(⟨#[59]⟩:ByteArray)]:List ByteArray)).bind fun (y2240:(List ByteArray))=>some y2240 else (if a1.f0=11 then (at? a1.f3 0).bind fun y2454=>(rec34 a0_0 (⟨#[]⟩:ByteArray) y2454 ([(⟨#[61]⟩:ByteArray)]:List ByteArray)).bind fun (y2475:(List ByteArray))=>(at? a1.f3 1).bind fun y2480=>(rec34 y2475 (⟨#[]⟩:ByteArray) y2480 ([(⟨#[59]⟩:ByteArray)]:List ByteArray)).bind fun (y2501:(List ByteArray))=>some y2501 else (if a1.f0=12 then (parse_writer_put.f a0_0 ([(⟨#[105,102]⟩:ByteArray)]:List ByteArray)).bind fun (y2670:(List ByteArray))=>(cut? a1.f3 (0:Int) 2).bind fun (y2675:(List S24))=>(rec50 y2670 y2675 (⟨#[]⟩:ByteArray)).bind fun (y2679:(List ByteArray))=>(if 2 < (a1.f3.length:Int) then (at? a1.f3 2).bind fun y2704=>(rec34 y2679 (⟨#[101,108,115,101]⟩:ByteArray) y2704 ([]:List ByteArray)).bind fun (y2717:(List ByteArray))=>some y2717 else some y2679) else (if a1.f0=13 then (parse_writer_put.f a0_0 ([(⟨#[102,111,114]⟩:ByteArray)]:List ByteArray)).bind fun (y2844:(List ByteArray))=>(cut? a1.f3 (0:Int) 2).bind fun (y2849:(List S24))=>(rec50 y2844 y2849 (⟨#[]⟩:ByteArray)).bind fun (y2853:(List ByteArray))=>some y2853 else (if a1.f0=14 then (parse_writer_put.f a0_0 ([(⟨#[114,101,116,117,114,110]⟩:ByteArray)]:List ByteArray)).bind fun (y2957:(List ByteArray))=>(cut? a1.f3 (0:Int) (if (a1.f3.length:Int) < 1 then (a1.f3.length:Int) else 1)).bind fun (y2962:(List S24))=>(rec50 y2957 y2962 (⟨#[]⟩:ByteArray)).bind fun (y2966:(List ByteArray))=>(parse_writer_put.f y2966 ([(⟨#[59]⟩:ByteArray)]:List ByteArray)).bind fun (y2979:(List ByteArray))=>some y2979 else (if a1.f0=15 then (at? a1.f3 0).bind fun y3039=>(rec34 a0_0 (⟨#[112,114,105,110,116]⟩:ByteArray) y3039 ([(⟨#[59]⟩:ByteArray)]:List ByteArray)).bind fun (y3060:(List ByteArray))=>some y3060 else (if a1.f0=16 then (at? a1.f3 0).bind fun y3093=>(rec34 a0_0 (⟨#[]⟩:ByteArray) y3093 ([(⟨#[59]⟩:ByteArray)]:List ByteArray)).bind fun (y3114:(List ByteArray))=>some y3114 else some a0_0))))))))
theorem parse_writer_statement.step (rec9:(S24 → Option ByteArray)) (rec20:((List ByteArray) → S24 → Option (List ByteArray))) (rec33:((List ByteArray) → S24 → Option (List ByteArray))) (rec34:((List ByteArray) → ByteArray → S24 → (List ByteArray) → Option (List ByteArray))) (rec35:((List ByteArray) → S24 → Option (List ByteArray))) (rec36:((List ByteArray) → S24 → Option (List ByteArray))) (rec37:((List ByteArray) → S24 → Option (List ByteArray))) (rec50:((List ByteArray) → (List S24) → ByteArray → Option (List ByteArray))) (ih9:∀ {G:Gd} {r:ByteArray} {a0:S24} {A1:Option Addr} {c2:Nat} (hr3:Rd G k24 A1 a0.f3) (hl4:a0.f3.length ≤ c2),rec9 a0=some r → Fn Try.prog 9 G [] [.agg #[VI a0.f0,.string a0.f1,VI a0.f2,.slice A1 a0.f3.length c2]] (parse_Text.post G  r)) (ih20:∀ {G:Gd} {r:(List ByteArray)} {a0_0:(List ByteArray)} {a1:S24} {b1:Nat} {A2:Option Addr} {c3:Nat} {A5:Option Addr} {c6:Nat} (hr7:Rd G k24 A5 a1.f3) (hl8:a1.f3.length ≤ c6),rec20 a0_0 a1=some r → Fn Try.prog 20 G [Blk b1 [.slice A2 a0_0.length c3] 46,Row Kd.string 9 (.slice A2 a0_0.length c3) a0_0] [VP b1 0,.agg #[VI a1.f0,.string a1.f1,VI a1.f2,.slice A5 a1.f3.length c6]] (parse_writer_node.post G b1 A2 c3 A5 c6 a0_0 a1 r)) (ih33:∀ {G:Gd} {r:(List ByteArray)} {a0_0:(List ByteArray)} {a1:S24} {b1:Nat} {A2:Option Addr} {c3:Nat} {A5:Option Addr} {c6:Nat} (hr7:Rd G k24 A5 a1.f3) (hl8:a1.f3.length ≤ c6),rec33 a0_0 a1=some r → Fn Try.prog 33 G [Blk b1 [.slice A2 a0_0.length c3] 46,Row Kd.string 9 (.slice A2 a0_0.length c3) a0_0] [VP b1 0,.agg #[VI a1.f0,.string a1.f1,VI a1.f2,.slice A5 a1.f3.length c6]] (parse_writer_head.post G b1 A2 c3 A5 c6 a0_0 a1 r)) (ih34:∀ {G:Gd} {r:(List ByteArray)} {a0_0:(List ByteArray)} {a1:ByteArray} {a2:S24} {a3:(List ByteArray)} {b1:Nat} {A2:Option Addr} {c3:Nat} {A5:Option Addr} {c6:Nat} {A9:Option Addr} {c10:Nat} (hr7:Rd G k24 A5 a2.f3) (hl8:a2.f3.length ≤ c6) (hr11:Rd G Kd.string A9 a3) (hl12:a3.length ≤ c10),rec34 a0_0 a1 a2 a3=some r → Fn Try.prog 34 G [Blk b1 [.slice A2 a0_0.length c3] 46,Row Kd.string 9 (.slice A2 a0_0.length c3) a0_0] [VP b1 0,.string a1,.agg #[VI a2.f0,.string a2.f1,VI a2.f2,.slice A5 a2.f3.length c6],.slice A9 a3.length c10] (parse_writer_around.post G b1 A2 c3 A5 c6 A9 c10 a0_0 a1 a2 a3 r)) (ih35:∀ {G:Gd} {r:(List ByteArray)} {a0_0:(List ByteArray)} {a1:S24} {b1:Nat} {A2:Option Addr} {c3:Nat} {A5:Option Addr} {c6:Nat} (hr7:Rd G k24 A5 a1.f3) (hl8:a1.f3.length ≤ c6),rec35 a0_0 a1=some r → Fn Try.prog 35 G [Blk b1 [.slice A2 a0_0.length c3] 46,Row Kd.string 9 (.slice A2 a0_0.length c3) a0_0] [VP b1 0,.agg #[VI a1.f0,.string a1.f1,VI a1.f2,.slice A5 a1.f3.length c6]] (parse_writer_typ.post G b1 A2 c3 A5 c6 a0_0 a1 r)) (ih36:∀ {G:Gd} {r:(List ByteArray)} {a0_0:(List ByteArray)} {a1:S24} {b1:Nat} {A2:Option Addr} {c3:Nat} {A5:Option Addr} {c6:Nat} (hr7:Rd G k24 A5 a1.f3) (hl8:a1.f3.length ≤ c6),rec36 a0_0 a1=some r → Fn Try.prog 36 G [Blk b1 [.slice A2 a0_0.length c3] 46,Row Kd.string 9 (.slice A2 a0_0.length c3) a0_0] [VP b1 0,.agg #[VI a1.f0,.string a1.f1,VI a1.f2,.slice A5 a1.f3.length c6]] (parse_writer_statement.post G b1 A2 c3 A5 c6 a0_0 a1 r)) (ih37:∀ {G:Gd} {r:(List ByteArray)} {a0_0:(List ByteArray)} {a1:S24} {b1:Nat} {A2:Option Addr} {c3:Nat} {A5:Option Addr} {c6:Nat} (hr7:Rd G k24 A5 a1.f3) (hl8:a1.f3.length ≤ c6),rec37 a0_0 a1=some r → Fn Try.prog 37 G [Blk b1 [.slice A2 a0_0.length c3] 46,Row Kd.string 9 (.slice A2 a0_0.length c3) a0_0] [VP b1 0,.agg #[VI a1.f0,.string a1.f1,VI a1.f2,.slice A5 a1.f3.length c6]] (parse_writer_expr.post G b1 A2 c3 A5 c6 a0_0 a1 r)) (ih50:∀ {G:Gd} {r:(List ByteArray)} {a0_0:(List ByteArray)} {a1:(List S24)} {a2:ByteArray} {b1:Nat} {A2:Option Addr} {c3:Nat} {A5:Option Addr} {c6:Nat} (hr7:Rd G k24 A5 a1) (hl8:a1.length ≤ c6),rec50 a0_0 a1 a2=some r → Fn Try.prog 50 G [Blk b1 [.slice A2 a0_0.length c3] 46,Row Kd.string 9 (.slice A2 a0_0.length c3) a0_0] [VP b1 0,.slice A5 a1.length c6,.string a2] (parse_writer_list.post G b1 A2 c3 A5 c6 a0_0 a1 a2 r)) {G:Gd} {r:(List ByteArray)} {a0_0:(List ByteArray)} {a1:S24} {b1:Nat} {A2:Option Addr} {c3:Nat} {A5:Option Addr} {c6:Nat} (hr7:Rd G k24 A5 a1.f3) (hl8:a1.f3.length ≤ c6) (h:parse_writer_statement.g rec9 rec20 rec33 rec34 rec35 rec36 rec37 rec50 a0_0 a1=some r):Fn Try.prog 36 G [Blk b1 [.slice A2 a0_0.length c3] 46,Row Kd.string 9 (.slice A2 a0_0.length c3) a0_0] [VP b1 0,.agg #[VI a1.f0,.string a1.f1,VI a1.f2,.slice A5 a1.f3.length c6]] (parse_writer_statement.post G b1 A2 c3 A5 c6 a0_0 a1 r):=by
 refine Fn.intro (e:=[(0,VP b1 0),(1,.agg #[VI a1.f0,.string a1.f1,VI a1.f2,.slice A5 a1.f3.length c6])]) 113 Try.func36 rfl Try.ntmps36 rfl rfl (Nat.le_of_ble_eq_true rfl) (fun L=>?_)
 unfold parse_writer_statement.g at h
 refine TC.seq ?_
 refine TC.region ?_
 refine TL.cons (TL.box (cs:=[VI a1.f0,.string a1.f1,VI a1.f2,.slice A5 a1.f3.length c6]) rfl rfl rfl rfl (fun b9=>?_))
 refine TL.nil ?_
 refine TQ.then_ ?_
 refine TC.seq ?_
 refine TC.region ?_
 refine TV rfl rfl rfl (Val.fieldAddrB Try.underlying24 rfl fsz3 rfl rfl rfl) ?_
 refine TV rfl rfl rfl (Val.loadB 0 agg3 rfl rfl rfl) ?_
 refine TL.nil ?_
 refine TQ.then_ ?_
 refine TC.block ?_
 refine TC.seq ?_
 refine TC.region ?_
 refine TV rfl rfl rfl (Val.cmp rfl rfl run_eql) ?_
 refine TV rfl rfl rfl (Val.assign rfl) ?_
 refine TL.nil ?_
 refine TQ.then_ ?_
 refine TC.cond_p rfl h (fun hc1873 h=>?_) (fun hc1873 h=>?_)
 ·
  refine TC.seq ?_
  refine TC.region ?_
  refine TV rfl rfl rfl (Val.move rfl) ?_
  refine TL.cons (TL.buildSlice (xs:=[.const (.string (⟨#[123]⟩:ByteArray))]) (vs:=[.string (⟨#[123]⟩:ByteArray)]) (cs:=[.string (⟨#[123]⟩:ByteArray)]) rfl rfl Try.underlying44 zs9 rfl rfl rfl rfl rfl rfl rfl rfl (fun b1874=>?_))
  refine TK.new (Els.nil Kd.string) ?_
  refine TK.new (El.of (k:=Kd.string) (xv:=(⟨#[123]⟩:ByteArray)) (cs:=[.string (⟨#[123]⟩:ByteArray)]) (fun W B=>rfl)) ?_
  refine TK.sel (Ls:=[Els Kd.string [] [],El Kd.string (⟨#[123]⟩:ByteArray) [.string (⟨#[123]⟩:ByteArray)],Blk b1874 [.string (⟨#[123]⟩:ByteArray)] 9,Blk b9 [VI a1.f0,.string a1.f1,VI a1.f2,.slice A5 a1.f3.length c6] 24,Blk b1 [.slice A2 a0_0.length c3] 46,Row Kd.string 9 (.slice A2 a0_0.length c3) a0_0]) [1,0,2,3,4,5] 6 rfl rfl rfl ?_
  refine TK.two (ch:=Els Kd.string [(⟨#[123]⟩:ByteArray)] [.string (⟨#[123]⟩:ByteArray)]) (Els.snoc Kd.string) ?_
  refine TK.sel (Ls:=[Blk b1874 [.string (⟨#[123]⟩:ByteArray)] 9,Els Kd.string [(⟨#[123]⟩:ByteArray)] [.string (⟨#[123]⟩:ByteArray)],Blk b9 [VI a1.f0,.string a1.f1,VI a1.f2,.slice A5 a1.f3.length c6] 24,Blk b1 [.slice A2 a0_0.length c3] 46,Row Kd.string 9 (.slice A2 a0_0.length c3) a0_0]) [1,0,2,3,4] 5 rfl rfl rfl ?_
  refine TK.two (ch:=Row Kd.string 9 (.slice (some ⟨b1874,0,none⟩) 1 1) ([(⟨#[123]⟩:ByteArray)]:List ByteArray)) (Row.lit Kd.string rfl rfl) ?_
  refine TK.share (fun G1876 e1877 hs1878 hb1879=>?_)
  have rd1880:Rd G1876 Kd.string (some ⟨b1874,0,none⟩) ([(⟨#[123]⟩:ByteArray)]:List ByteArray):=Rd.row hs1878
  have le1881:([(⟨#[123]⟩:ByteArray)]:List ByteArray).length ≤ 1:=Row.le hs1878
  refine TK.sel (Ls:=[Blk b1 [.slice A2 a0_0.length c3] 46,Row Kd.string 9 (.slice A2 a0_0.length c3) a0_0,Blk b9 [VI a1.f0,.string a1.f1,VI a1.f2,.slice A5 a1.f3.length c6] 24]) [1,2,0] 3 rfl rfl rfl ?_
  obtain ⟨y1882,hy1883,h⟩:=bind_no h
  refine TL.cons (TL.callV (Lin:=[Blk b1 [.slice A2 a0_0.length c3] 46,Row Kd.string 9 (.slice A2 a0_0.length c3) a0_0]) (args:=[VP b1 0,.slice (some ⟨b1874,0,none⟩) 1 1]) rfl rfl rfl hbd32 rfl rfl (parse_writer_put.calls (a0_0:=a0_0) (a1:=([(⟨#[123]⟩:ByteArray)]:List ByteArray)) rd1880 le1881 hy1883) rfl ?_)
  rintro _ _ _ _ ⟨rfl,A1884,c1885,rfl,rfl⟩
  refine TL.nil ?_
  refine TQ.then_ ?_
  refine TC.seq ?_
  refine TC.region ?_
  refine TV rfl rfl rfl (Val.move rfl) ?_
  refine TV rfl rfl rfl (Val.fieldAddrB Try.underlying24 rfl fsz22 rfl rfl rfl) ?_
  refine TV rfl rfl rfl (Val.loadB 2 agg22 rfl rfl rfl) ?_
  obtain ⟨y1887,hy1888,h⟩:=bind_no h
  refine TL.cons (TL.callV (Lin:=[Blk b1 [.slice A1884 y1882.length c1885] 46,Row Kd.string 9 (.slice A1884 y1882.length c1885) y1882]) (args:=[VP b1 0,.slice A5 a1.f3.length c6,.string (⟨#[]⟩:ByteArray)]) rfl rfl rfl hbd50 rfl rfl (ih50 (a0_0:=y1882) (a1:=a1.f3) (a2:=(⟨#[]⟩:ByteArray)) (hr7.up e1877) hl8 hy1888) rfl ?_)
  rintro _ _ _ _ ⟨rfl,A1889,c1890,rfl,rfl⟩
  refine TL.nil ?_
  refine TQ.then_ ?_
  refine TC.region ?_
  refine TV rfl rfl rfl (Val.move rfl) ?_
  refine TL.cons (TL.buildSlice (xs:=[.const (.string (⟨#[125]⟩:ByteArray))]) (vs:=[.string (⟨#[125]⟩:ByteArray)]) (cs:=[.string (⟨#[125]⟩:ByteArray)]) rfl rfl Try.underlying44 zs9 rfl rfl rfl rfl rfl rfl rfl rfl (fun b1892=>?_))
  refine TK.new (Els.nil Kd.string) ?_
  refine TK.new (El.of (k:=Kd.string) (xv:=(⟨#[125]⟩:ByteArray)) (cs:=[.string (⟨#[125]⟩:ByteArray)]) (fun W B=>rfl)) ?_
  refine TK.sel (Ls:=[Els Kd.string [] [],El Kd.string (⟨#[125]⟩:ByteArray) [.string (⟨#[125]⟩:ByteArray)],Blk b1892 [.string (⟨#[125]⟩:ByteArray)] 9,Blk b1 [.slice A1889 y1887.length c1890] 46,Row Kd.string 9 (.slice A1889 y1887.length c1890) y1887,Blk b9 [VI a1.f0,.string a1.f1,VI a1.f2,.slice A5 a1.f3.length c6] 24]) [1,0,2,3,4,5] 6 rfl rfl rfl ?_
  refine TK.two (ch:=Els Kd.string [(⟨#[125]⟩:ByteArray)] [.string (⟨#[125]⟩:ByteArray)]) (Els.snoc Kd.string) ?_
  refine TK.sel (Ls:=[Blk b1892 [.string (⟨#[125]⟩:ByteArray)] 9,Els Kd.string [(⟨#[125]⟩:ByteArray)] [.string (⟨#[125]⟩:ByteArray)],Blk b1 [.slice A1889 y1887.length c1890] 46,Row Kd.string 9 (.slice A1889 y1887.length c1890) y1887,Blk b9 [VI a1.f0,.string a1.f1,VI a1.f2,.slice A5 a1.f3.length c6] 24]) [1,0,2,3,4] 5 rfl rfl rfl ?_
  refine TK.two (ch:=Row Kd.string 9 (.slice (some ⟨b1892,0,none⟩) 1 1) ([(⟨#[125]⟩:ByteArray)]:List ByteArray)) (Row.lit Kd.string rfl rfl) ?_
  refine TK.share (fun G1894 e1895 hs1896 hb1897=>?_)
  have rd1898:Rd G1894 Kd.string (some ⟨b1892,0,none⟩) ([(⟨#[125]⟩:ByteArray)]:List ByteArray):=Rd.row hs1896
  have le1899:([(⟨#[125]⟩:ByteArray)]:List ByteArray).length ≤ 1:=Row.le hs1896
  obtain ⟨y1900,hy1901,h⟩:=bind_no h
  refine TL.cons (TL.callV (Lin:=[Blk b1 [.slice A1889 y1887.length c1890] 46,Row Kd.string 9 (.slice A1889 y1887.length c1890) y1887]) (args:=[VP b1 0,.slice (some ⟨b1892,0,none⟩) 1 1]) rfl rfl rfl hbd32 rfl rfl (parse_writer_put.calls (a0_0:=y1887) (a1:=([(⟨#[125]⟩:ByteArray)]:List ByteArray)) rd1898 le1899 hy1901) rfl ?_)
  rintro _ _ _ _ ⟨rfl,A1902,c1903,rfl,rfl⟩
  refine TL.nil ?_
  refine TQ.inB ?_
  refine TQ.back hb1897 ?_
  refine TQ.back hb1879 ?_
  obtain rfl:=Option.some.inj h
  exact TQ.fin (.inr rfl) rfl Try.results36 .nil rfl (FRel.mk (Ls:=[Blk b1 [.slice A1902 y1900.length c1903] 46,Row Kd.string 9 (.slice A1902 y1900.length c1903) y1900]) [2,3] 5 (Gd.le.refl _) rfl rfl rfl ⟨rfl,A1902,c1903,rfl,rfl⟩)
 ·
  refine TC.seq ?_
  refine TC.region ?_
  refine TV rfl rfl rfl (Val.cmp rfl rfl run_eql) ?_
  refine TV rfl rfl rfl (Val.assign rfl) ?_
  refine TL.nil ?_
  refine TQ.then_ ?_
  refine TC.cond_p rfl h (fun hc2179 h=>?_) (fun hc2179 h=>?_)
  ·
   refine TC.seq ?_
   refine TC.region ?_
   refine TV rfl rfl rfl (Val.move rfl) ?_
   refine TL.cons (TL.buildSlice (xs:=[.const (.string (⟨#[118,97,114]⟩:ByteArray))]) (vs:=[.string (⟨#[118,97,114]⟩:ByteArray)]) (cs:=[.string (⟨#[118,97,114]⟩:ByteArray)]) rfl rfl Try.underlying44 zs9 rfl rfl rfl rfl rfl rfl rfl rfl (fun b2180=>?_))
   refine TK.new (Els.nil Kd.string) ?_
   refine TK.new (El.of (k:=Kd.string) (xv:=(⟨#[118,97,114]⟩:ByteArray)) (cs:=[.string (⟨#[118,97,114]⟩:ByteArray)]) (fun W B=>rfl)) ?_
   refine TK.sel (Ls:=[Els Kd.string [] [],El Kd.string (⟨#[118,97,114]⟩:ByteArray) [.string (⟨#[118,97,114]⟩:ByteArray)],Blk b2180 [.string (⟨#[118,97,114]⟩:ByteArray)] 9,Blk b9 [VI a1.f0,.string a1.f1,VI a1.f2,.slice A5 a1.f3.length c6] 24,Blk b1 [.slice A2 a0_0.length c3] 46,Row Kd.string 9 (.slice A2 a0_0.length c3) a0_0]) [1,0,2,3,4,5] 6 rfl rfl rfl ?_
   refine TK.two (ch:=Els Kd.string [(⟨#[118,97,114]⟩:ByteArray)] [.string (⟨#[118,97,114]⟩:ByteArray)]) (Els.snoc Kd.string) ?_
   refine TK.sel (Ls:=[Blk b2180 [.string (⟨#[118,97,114]⟩:ByteArray)] 9,Els Kd.string [(⟨#[118,97,114]⟩:ByteArray)] [.string (⟨#[118,97,114]⟩:ByteArray)],Blk b9 [VI a1.f0,.string a1.f1,VI a1.f2,.slice A5 a1.f3.length c6] 24,Blk b1 [.slice A2 a0_0.length c3] 46,Row Kd.string 9 (.slice A2 a0_0.length c3) a0_0]) [1,0,2,3,4] 5 rfl rfl rfl ?_
   refine TK.two (ch:=Row Kd.string 9 (.slice (some ⟨b2180,0,none⟩) 1 1) ([(⟨#[118,97,114]⟩:ByteArray)]:List ByteArray)) (Row.lit Kd.string rfl rfl) ?_
   refine TK.share (fun G2182 e2183 hs2184 hb2185=>?_)
   have rd2186:Rd G2182 Kd.string (some ⟨b2180,0,none⟩) ([(⟨#[118,97,114]⟩:ByteArray)]:List ByteArray):=Rd.row hs2184
   have le2187:([(⟨#[118,97,114]⟩:ByteArray)]:List ByteArray).length ≤ 1:=Row.le hs2184
   refine TK.sel (Ls:=[Blk b1 [.slice A2 a0_0.length c3] 46,Row Kd.string 9 (.slice A2 a0_0.length c3) a0_0,Blk b9 [VI a1.f0,.string a1.f1,VI a1.f2,.slice A5 a1.f3.length c6] 24]) [1,2,0] 3 rfl rfl rfl ?_
   obtain ⟨y2188,hy2189,h⟩:=bind_no h
   refine TL.cons (TL.callV (Lin:=[Blk b1 [.slice A2 a0_0.length c3] 46,Row Kd.string 9 (.slice A2 a0_0.length c3) a0_0]) (args:=[VP b1 0,.slice (some ⟨b2180,0,none⟩) 1 1]) rfl rfl rfl hbd32 rfl rfl (parse_writer_put.calls (a0_0:=a0_0) (a1:=([(⟨#[118,97,114]⟩:ByteArray)]:List ByteArray)) rd2186 le2187 hy2189) rfl ?_)
   rintro _ _ _ _ ⟨rfl,A2190,c2191,rfl,rfl⟩
   refine TL.nil ?_
   refine TQ.then_ ?_
   refine TC.regionAnyS (L0:=(Blk b9 [VI a1.f0,.string a1.f1,VI a1.f2,.slice A5 a1.f3.length c6] 24::L)) [] [0,1,2,3,4,5,6] mixed (by kernel_rfl) ?_
   refine TA.take 0 rfl (by kernel_rfl) rfl (PQ.inB PQ.body) rfl (Val.move rfl) (fun W hO=>hO.selT (Ls:=[Blk b9 [VI a1.f0,.string a1.f1,VI a1.f2,.slice A5 a1.f3.length c6] 24]) [2] 3 rfl rfl rfl) ?_
   refine TA.take 1 rfl (by kernel_rfl) rfl (PQ.inB PQ.body) rfl (Val.fieldAddrB Try.underlying24 rfl fsz9 rfl rfl rfl) (fun W hO=>hO.selT (Ls:=[Blk b9 [VI a1.f0,.string a1.f1,VI a1.f2,.slice A5 a1.f3.length c6] 24]) [2] 3 rfl rfl rfl) ?_
   refine TA.take 2 rfl (by kernel_rfl) rfl (PQ.inB PQ.body) rfl (Val.loadB 0 agg9 rfl rfl rfl) (fun W hO=>hO.selT (Ls:=[Blk b9 [VI a1.f0,.string a1.f1,VI a1.f2,.slice A5 a1.f3.length c6] 24]) [2] 3 rfl rfl rfl) ?_
   refine TA.take 3 rfl (by kernel_rfl) rfl (PQ.inB PQ.body) rfl (Val.fieldAddrB Try.underlying24 rfl fsz22 rfl rfl rfl) (fun W hO=>hO.selT (Ls:=[Blk b9 [VI a1.f0,.string a1.f1,VI a1.f2,.slice A5 a1.f3.length c6] 24]) [2] 3 rfl rfl rfl) ?_
   refine TA.take 4 rfl (by kernel_rfl) rfl (PQ.inB PQ.body) rfl (Val.loadB 0 agg22 rfl rfl rfl) (fun W hO=>hO.selT (Ls:=[Blk b9 [VI a1.f0,.string a1.f1,VI a1.f2,.slice A5 a1.f3.length c6] 24]) [2] 3 rfl rfl rfl) ?_
   obtain ⟨y2219,hx2220,h⟩:=bind_no h
   obtain ⟨ad2221,cs2227,hA2222,hi2223,hj2224,hcl2225,hK2226⟩:=Rd.at (hr7.up e2183) hx2220
   obtain ⟨A2228,c2229,rfl,hr2230,hl2231⟩:=k24_openR hK2226
   refine TA.take 5 rfl (by kernel_rfl) rfl (PQ.inB PQ.body) rfl (Val.indexAddr Try.underlying22 fsz24 rfl hA2222 rfl hi2223 hj2224) (fun W hO=>hO.selT (Ls:=[Blk b9 [VI a1.f0,.string a1.f1,VI a1.f2,.slice A5 a1.f3.length c6] 24]) [2] 3 rfl rfl rfl) ?_
   refine TA.take 6 rfl (by kernel_rfl) rfl (PQ.inB PQ.body) rfl (Val.loadsS (cs:=[VI y2219.f0,.string y2219.f1,VI y2219.f2,.slice A2228 y2219.f3.length c2229]) agg24 fsz24 rfl rfl (Cl.sub (off:=0) (n:=4) hcl2225 rfl)) (fun W hO=>hO.selT (Ls:=[Blk b9 [VI a1.f0,.string a1.f1,VI a1.f2,.slice A5 a1.f3.length c6] 24]) [2] 3 rfl rfl rfl) ?_
   refine TA.eff 7 rfl (by kernel_rfl) rfl (TL.buildSlice (xs:=[.const (.string (⟨#[59]⟩:ByteArray))]) (vs:=[.string (⟨#[59]⟩:ByteArray)]) (cs:=[.string (⟨#[59]⟩:ByteArray)]) rfl rfl Try.underlying44 zs9 rfl rfl rfl rfl rfl rfl rfl rfl (fun b2232=>?_))
   refine TA.next (fun W hO=>hO.selT (Ls:=[Blk b9 [VI a1.f0,.string a1.f1,VI a1.f2,.slice A5 a1.f3.length c6] 24]) [3] 4 rfl rfl rfl) ?_
   refine TK.new (Els.nil Kd.string) ?_
   refine TK.new (El.of (k:=Kd.string) (xv:=(⟨#[59]⟩:ByteArray)) (cs:=[.string (⟨#[59]⟩:ByteArray)]) (fun W B=>rfl)) ?_
   refine TK.sel (Ls:=[Els Kd.string [] [],El Kd.string (⟨#[59]⟩:ByteArray) [.string (⟨#[59]⟩:ByteArray)],Blk b2232 [.string (⟨#[59]⟩:ByteArray)] 9,Blk b1 [.slice A2190 y2188.length c2191] 46,Row Kd.string 9 (.slice A2190 y2188.length c2191) y2188,Blk b9 [VI a1.f0,.string a1.f1,VI a1.f2,.slice A5 a1.f3.length c6] 24]) [1,0,2,3,4,5] 6 rfl rfl rfl ?_
   refine TK.two (ch:=Els Kd.string [(⟨#[59]⟩:ByteArray)] [.string (⟨#[59]⟩:ByteArray)]) (Els.snoc Kd.string) ?_
   refine TK.sel (Ls:=[Blk b2232 [.string (⟨#[59]⟩:ByteArray)] 9,Els Kd.string [(⟨#[59]⟩:ByteArray)] [.string (⟨#[59]⟩:ByteArray)],Blk b1 [.slice A2190 y2188.length c2191] 46,Row Kd.string 9 (.slice A2190 y2188.length c2191) y2188,Blk b9 [VI a1.f0,.string a1.f1,VI a1.f2,.slice A5 a1.f3.length c6] 24]) [1,0,2,3,4] 5 rfl rfl rfl ?_
   refine TK.two (ch:=Row Kd.string 9 (.slice (some ⟨b2232,0,none⟩) 1 1) ([(⟨#[59]⟩:ByteArray)]:List ByteArray)) (Row.lit Kd.string rfl rfl) ?_
   refine TK.share (fun G2234 e2235 hs2236 hb2237=>?_)
   have rd2238:Rd G2234 Kd.string (some ⟨b2232,0,none⟩) ([(⟨#[59]⟩:ByteArray)]:List ByteArray):=Rd.row hs2236
   have le2239:([(⟨#[59]⟩:ByteArray)]:List ByteArray).length ≤ 1:=Row.le hs2236
   obtain ⟨y2240,hy2241,h⟩:=bind_no h
   refine TA.eff 8 rfl (by kernel_rfl) rfl (TL.callV (Lin:=[Blk b1 [.slice A2190 y2188.length c2191] 46,Row Kd.string 9 (.slice A2190 y2188.length c2191) y2188]) (args:=[VP b1 0,.string a1.f1,.agg #[VI y2219.f0,.string y2219.f1,VI y2219.f2,.slice A2228 y2219.f3.length c2229],.slice (some ⟨b2232,0,none⟩) 1 1]) rfl rfl rfl hbd34 rfl rfl (ih34 (a0_0:=y2188) (a1:=a1.f1) (a2:=y2219) (a3:=([(⟨#[59]⟩:ByteArray)]:List ByteArray)) (hr2230.up e2235) hl2231 rd2238 le2239 hy2241) rfl ?_)
   rintro _ _ _ _ ⟨rfl,A2242,c2243,rfl,rfl⟩
   refine TA.next (fun W hO=>(hb2237 _ _ hO).selT (Ls:=[Blk b9 [VI a1.f0,.string a1.f1,VI a1.f2,.slice A5 a1.f3.length c6] 24]) [3] 4 rfl rfl rfl) ?_
   refine TA.done (by kernel_rfl) ?_
   refine TQ.inB ?_
   refine TQ.back hb2237 ?_
   refine TQ.back hb2185 ?_
   obtain rfl:=Option.some.inj h
   exact TQ.fin (.inr rfl) rfl Try.results36 .nil rfl (FRel.mk (Ls:=[Blk b1 [.slice A2242 y2240.length c2243] 46,Row Kd.string 9 (.slice A2242 y2240.length c2243) y2240]) [2,3] 5 (Gd.le.refl _) rfl rfl rfl ⟨rfl,A2242,c2243,rfl,rfl⟩)
  ·
   refine TC.seq ?_
   refine TC.region ?_
   refine TV rfl rfl rfl (Val.cmp rfl rfl run_eql) ?_
   refine TV rfl rfl rfl (Val.assign rfl) ?_
   refine TL.nil ?_
   refine TQ.then_ ?_
   refine TC.cond_p rfl h (fun hc2453 h=>?_) (fun hc2453 h=>?_)
   ·
    refine TC.seq ?_
    refine TC.region ?_
    refine TV rfl rfl rfl (Val.move rfl) ?_
    refine TV rfl rfl rfl (Val.fieldAddrB Try.underlying24 rfl fsz22 rfl rfl rfl) ?_
    refine TV rfl rfl rfl (Val.loadB 0 agg22 rfl rfl rfl) ?_
    obtain ⟨y2454,hx2455,h⟩:=bind_no h
    obtain ⟨ad2456,cs2462,hA2457,hi2458,hj2459,hcl2460,hK2461⟩:=Rd.at hr7 hx2455
    obtain ⟨A2463,c2464,rfl,hr2465,hl2466⟩:=k24_openR hK2461
    refine TV rfl rfl rfl (Val.indexAddr Try.underlying22 fsz24 rfl hA2457 rfl hi2458 hj2459) ?_
    refine TV rfl rfl rfl (Val.loadsS (cs:=[VI y2454.f0,.string y2454.f1,VI y2454.f2,.slice A2463 y2454.f3.length c2464]) agg24 fsz24 rfl rfl (Cl.sub (off:=0) (n:=4) hcl2460 rfl)) ?_
    refine TL.cons (TL.buildSlice (xs:=[.const (.string (⟨#[61]⟩:ByteArray))]) (vs:=[.string (⟨#[61]⟩:ByteArray)]) (cs:=[.string (⟨#[61]⟩:ByteArray)]) rfl rfl Try.underlying44 zs9 rfl rfl rfl rfl rfl rfl rfl rfl (fun b2467=>?_))
    refine TK.new (Els.nil Kd.string) ?_
    refine TK.new (El.of (k:=Kd.string) (xv:=(⟨#[61]⟩:ByteArray)) (cs:=[.string (⟨#[61]⟩:ByteArray)]) (fun W B=>rfl)) ?_
    refine TK.sel (Ls:=[Els Kd.string [] [],El Kd.string (⟨#[61]⟩:ByteArray) [.string (⟨#[61]⟩:ByteArray)],Blk b2467 [.string (⟨#[61]⟩:ByteArray)] 9,Blk b9 [VI a1.f0,.string a1.f1,VI a1.f2,.slice A5 a1.f3.length c6] 24,Blk b1 [.slice A2 a0_0.length c3] 46,Row Kd.string 9 (.slice A2 a0_0.length c3) a0_0]) [1,0,2,3,4,5] 6 rfl rfl rfl ?_
    refine TK.two (ch:=Els Kd.string [(⟨#[61]⟩:ByteArray)] [.string (⟨#[61]⟩:ByteArray)]) (Els.snoc Kd.string) ?_
    refine TK.sel (Ls:=[Blk b2467 [.string (⟨#[61]⟩:ByteArray)] 9,Els Kd.string [(⟨#[61]⟩:ByteArray)] [.string (⟨#[61]⟩:ByteArray)],Blk b9 [VI a1.f0,.string a1.f1,VI a1.f2,.slice A5 a1.f3.length c6] 24,Blk b1 [.slice A2 a0_0.length c3] 46,Row Kd.string 9 (.slice A2 a0_0.length c3) a0_0]) [1,0,2,3,4] 5 rfl rfl rfl ?_
    refine TK.two (ch:=Row Kd.string 9 (.slice (some ⟨b2467,0,none⟩) 1 1) ([(⟨#[61]⟩:ByteArray)]:List ByteArray)) (Row.lit Kd.string rfl rfl) ?_
    refine TK.share (fun G2469 e2470 hs2471 hb2472=>?_)
    have rd2473:Rd G2469 Kd.string (some ⟨b2467,0,none⟩) ([(⟨#[61]⟩:ByteArray)]:List ByteArray):=Rd.row hs2471
    have le2474:([(⟨#[61]⟩:ByteArray)]:List ByteArray).length ≤ 1:=Row.le hs2471
    refine TK.sel (Ls:=[Blk b1 [.slice A2 a0_0.length c3] 46,Row Kd.string 9 (.slice A2 a0_0.length c3) a0_0,Blk b9 [VI a1.f0,.string a1.f1,VI a1.f2,.slice A5 a1.f3.length c6] 24]) [1,2,0] 3 rfl rfl rfl ?_
    obtain ⟨y2475,hy2476,h⟩:=bind_no h
    refine TL.cons (TL.callV (Lin:=[Blk b1 [.slice A2 a0_0.length c3] 46,Row Kd.string 9 (.slice A2 a0_0.length c3) a0_0]) (args:=[VP b1 0,.string (⟨#[]⟩:ByteArray),.agg #[VI y2454.f0,.string y2454.f1,VI y2454.f2,.slice A2463 y2454.f3.length c2464],.slice (some ⟨b2467,0,none⟩) 1 1]) rfl rfl rfl hbd34 rfl rfl (ih34 (a0_0:=a0_0) (a1:=(⟨#[]⟩:ByteArray)) (a2:=y2454) (a3:=([(⟨#[61]⟩:ByteArray)]:List ByteArray)) (hr2465.up e2470) hl2466 rd2473 le2474 hy2476) rfl ?_)
    rintro _ _ _ _ ⟨rfl,A2477,c2478,rfl,rfl⟩
    refine TL.nil ?_
    refine TQ.then_ ?_
    refine TC.region ?_
    refine TV rfl rfl rfl (Val.move rfl) ?_
    refine TV rfl rfl rfl (Val.fieldAddrB Try.underlying24 rfl fsz22 rfl rfl rfl) ?_
    refine TV rfl rfl rfl (Val.loadB 2 agg22 rfl rfl rfl) ?_
    obtain ⟨y2480,hx2481,h⟩:=bind_no h
    obtain ⟨ad2482,cs2488,hA2483,hi2484,hj2485,hcl2486,hK2487⟩:=Rd.at (hr7.up e2470) hx2481
    obtain ⟨A2489,c2490,rfl,hr2491,hl2492⟩:=k24_openR hK2487
    refine TV rfl rfl rfl (Val.indexAddr Try.underlying22 fsz24 rfl hA2483 rfl hi2484 hj2485) ?_
    refine TV rfl rfl rfl (Val.loadsS (cs:=[VI y2480.f0,.string y2480.f1,VI y2480.f2,.slice A2489 y2480.f3.length c2490]) agg24 fsz24 rfl rfl (Cl.sub (off:=0) (n:=4) hcl2486 rfl)) ?_
    refine TL.cons (TL.buildSlice (xs:=[.const (.string (⟨#[59]⟩:ByteArray))]) (vs:=[.string (⟨#[59]⟩:ByteArray)]) (cs:=[.string (⟨#[59]⟩:ByteArray)]) rfl rfl Try.underlying44 zs9 rfl rfl rfl rfl rfl rfl rfl rfl (fun b2493=>?_))
    refine TK.new (Els.nil Kd.string) ?_
    refine TK.new (El.of (k:=Kd.string) (xv:=(⟨#[59]⟩:ByteArray)) (cs:=[.string (⟨#[59]⟩:ByteArray)]) (fun W B=>rfl)) ?_
    refine TK.sel (Ls:=[Els Kd.string [] [],El Kd.string (⟨#[59]⟩:ByteArray) [.string (⟨#[59]⟩:ByteArray)],Blk b2493 [.string (⟨#[59]⟩:ByteArray)] 9,Blk b1 [.slice A2477 y2475.length c2478] 46,Row Kd.string 9 (.slice A2477 y2475.length c2478) y2475,Blk b9 [VI a1.f0,.string a1.f1,VI a1.f2,.slice A5 a1.f3.length c6] 24]) [1,0,2,3,4,5] 6 rfl rfl rfl ?_
    refine TK.two (ch:=Els Kd.string [(⟨#[59]⟩:ByteArray)] [.string (⟨#[59]⟩:ByteArray)]) (Els.snoc Kd.string) ?_
    refine TK.sel (Ls:=[Blk b2493 [.string (⟨#[59]⟩:ByteArray)] 9,Els Kd.string [(⟨#[59]⟩:ByteArray)] [.string (⟨#[59]⟩:ByteArray)],Blk b1 [.slice A2477 y2475.length c2478] 46,Row Kd.string 9 (.slice A2477 y2475.length c2478) y2475,Blk b9 [VI a1.f0,.string a1.f1,VI a1.f2,.slice A5 a1.f3.length c6] 24]) [1,0,2,3,4] 5 rfl rfl rfl ?_
    refine TK.two (ch:=Row Kd.string 9 (.slice (some ⟨b2493,0,none⟩) 1 1) ([(⟨#[59]⟩:ByteArray)]:List ByteArray)) (Row.lit Kd.string rfl rfl) ?_
    refine TK.share (fun G2495 e2496 hs2497 hb2498=>?_)
    have rd2499:Rd G2495 Kd.string (some ⟨b2493,0,none⟩) ([(⟨#[59]⟩:ByteArray)]:List ByteArray):=Rd.row hs2497
    have le2500:([(⟨#[59]⟩:ByteArray)]:List ByteArray).length ≤ 1:=Row.le hs2497
    obtain ⟨y2501,hy2502,h⟩:=bind_no h
    refine TL.cons (TL.callV (Lin:=[Blk b1 [.slice A2477 y2475.length c2478] 46,Row Kd.string 9 (.slice A2477 y2475.length c2478) y2475]) (args:=[VP b1 0,.string (⟨#[]⟩:ByteArray),.agg #[VI y2480.f0,.string y2480.f1,VI y2480.f2,.slice A2489 y2480.f3.length c2490],.slice (some ⟨b2493,0,none⟩) 1 1]) rfl rfl rfl hbd34 rfl rfl (ih34 (a0_0:=y2475) (a1:=(⟨#[]⟩:ByteArray)) (a2:=y2480) (a3:=([(⟨#[59]⟩:ByteArray)]:List ByteArray)) (hr2491.up e2496) hl2492 rd2499 le2500 hy2502) rfl ?_)
    rintro _ _ _ _ ⟨rfl,A2503,c2504,rfl,rfl⟩
    refine TL.nil ?_
    refine TQ.inB ?_
    refine TQ.back hb2498 ?_
    refine TQ.back hb2472 ?_
    obtain rfl:=Option.some.inj h
    exact TQ.fin (.inr rfl) rfl Try.results36 .nil rfl (FRel.mk (Ls:=[Blk b1 [.slice A2503 y2501.length c2504] 46,Row Kd.string 9 (.slice A2503 y2501.length c2504) y2501]) [2,3] 5 (Gd.le.refl _) rfl rfl rfl ⟨rfl,A2503,c2504,rfl,rfl⟩)
   ·
    refine TC.seq ?_
    refine TC.region ?_
    refine TV rfl rfl rfl (Val.cmp rfl rfl run_eql) ?_
    refine TV rfl rfl rfl (Val.assign rfl) ?_
    refine TL.nil ?_
    refine TQ.then_ ?_
    refine TC.cond_p rfl h (fun hc2661 h=>?_) (fun hc2661 h=>?_)
    ·
     refine TC.seq ?_
     refine TC.region ?_
     refine TV rfl rfl rfl (Val.move rfl) ?_
     refine TL.cons (TL.buildSlice (xs:=[.const (.string (⟨#[105,102]⟩:ByteArray))]) (vs:=[.string (⟨#[105,102]⟩:ByteArray)]) (cs:=[.string (⟨#[105,102]⟩:ByteArray)]) rfl rfl Try.underlying44 zs9 rfl rfl rfl rfl rfl rfl rfl rfl (fun b2662=>?_))
     refine TK.new (Els.nil Kd.string) ?_
     refine TK.new (El.of (k:=Kd.string) (xv:=(⟨#[105,102]⟩:ByteArray)) (cs:=[.string (⟨#[105,102]⟩:ByteArray)]) (fun W B=>rfl)) ?_
     refine TK.sel (Ls:=[Els Kd.string [] [],El Kd.string (⟨#[105,102]⟩:ByteArray) [.string (⟨#[105,102]⟩:ByteArray)],Blk b2662 [.string (⟨#[105,102]⟩:ByteArray)] 9,Blk b9 [VI a1.f0,.string a1.f1,VI a1.f2,.slice A5 a1.f3.length c6] 24,Blk b1 [.slice A2 a0_0.length c3] 46,Row Kd.string 9 (.slice A2 a0_0.length c3) a0_0]) [1,0,2,3,4,5] 6 rfl rfl rfl ?_
     refine TK.two (ch:=Els Kd.string [(⟨#[105,102]⟩:ByteArray)] [.string (⟨#[105,102]⟩:ByteArray)]) (Els.snoc Kd.string) ?_
     refine TK.sel (Ls:=[Blk b2662 [.string (⟨#[105,102]⟩:ByteArray)] 9,Els Kd.string [(⟨#[105,102]⟩:ByteArray)] [.string (⟨#[105,102]⟩:ByteArray)],Blk b9 [VI a1.f0,.string a1.f1,VI a1.f2,.slice A5 a1.f3.length c6] 24,Blk b1 [.slice A2 a0_0.length c3] 46,Row Kd.string 9 (.slice A2 a0_0.length c3) a0_0]) [1,0,2,3,4] 5 rfl rfl rfl ?_
     refine TK.two (ch:=Row Kd.string 9 (.slice (some ⟨b2662,0,none⟩) 1 1) ([(⟨#[105,102]⟩:ByteArray)]:List ByteArray)) (Row.lit Kd.string rfl rfl) ?_
     refine TK.share (fun G2664 e2665 hs2666 hb2667=>?_)
     have rd2668:Rd G2664 Kd.string (some ⟨b2662,0,none⟩) ([(⟨#[105,102]⟩:ByteArray)]:List ByteArray):=Rd.row hs2666
     have le2669:([(⟨#[105,102]⟩:ByteArray)]:List ByteArray).length ≤ 1:=Row.le hs2666
     refine TK.sel (Ls:=[Blk b1 [.slice A2 a0_0.length c3] 46,Row Kd.string 9 (.slice A2 a0_0.length c3) a0_0,Blk b9 [VI a1.f0,.string a1.f1,VI a1.f2,.slice A5 a1.f3.length c6] 24]) [1,2,0] 3 rfl rfl rfl ?_
     obtain ⟨y2670,hy2671,h⟩:=bind_no h
     refine TL.cons (TL.callV (Lin:=[Blk b1 [.slice A2 a0_0.length c3] 46,Row Kd.string 9 (.slice A2 a0_0.length c3) a0_0]) (args:=[VP b1 0,.slice (some ⟨b2662,0,none⟩) 1 1]) rfl rfl rfl hbd32 rfl rfl (parse_writer_put.calls (a0_0:=a0_0) (a1:=([(⟨#[105,102]⟩:ByteArray)]:List ByteArray)) rd2668 le2669 hy2671) rfl ?_)
     rintro _ _ _ _ ⟨rfl,A2672,c2673,rfl,rfl⟩
     refine TL.nil ?_
     refine TQ.then_ ?_
     refine TC.seq ?_
     refine TC.region ?_
     refine TV rfl rfl rfl (Val.move rfl) ?_
     refine TV rfl rfl rfl (Val.fieldAddrB Try.underlying24 rfl fsz22 rfl rfl rfl) ?_
     refine TV rfl rfl rfl (Val.loadB 2 agg22 rfl rfl rfl) ?_
     obtain ⟨y2675,hy2676,h⟩:=bind_no h
     obtain ⟨hr2677,hl2678⟩:=Rd.cut (hr7.up e2665) hl8 hy2676
     refine TV rfl rfl rfl (Val.cut Try.underlying22 fsz24 rfl rfl hl8 rfl rfl hy2676) ?_
     obtain ⟨y2679,hy2680,h⟩:=bind_no h
     refine TL.cons (TL.callV (Lin:=[Blk b1 [.slice A2672 y2670.length c2673] 46,Row Kd.string 9 (.slice A2672 y2670.length c2673) y2670]) (args:=[VP b1 0,.slice (cutA A5 c6 (0:Int).toNat 4) y2675.length (c6 - (0:Int).toNat),.string (⟨#[]⟩:ByteArray)]) rfl rfl rfl hbd50 rfl rfl (ih50 (a0_0:=y2670) (a1:=y2675) (a2:=(⟨#[]⟩:ByteArray)) hr2677 hl2678 hy2680) rfl ?_)
     rintro _ _ _ _ ⟨rfl,A2681,c2682,rfl,rfl⟩
     refine TL.nil ?_
     refine TQ.then_ ?_
     refine TC.seq ?_
     refine TC.region ?_
     refine TV rfl rfl rfl (Val.fieldAddrB Try.underlying24 rfl fsz22 rfl rfl rfl) ?_
     refine TV rfl rfl rfl (Val.loadB 2 agg22 rfl rfl rfl) ?_
     refine TV rfl rfl rfl (Val.len Try.underlying22 rfl) ?_
     refine TV rfl rfl rfl (Val.cmp rfl rfl run_gtr) ?_
     refine TL.nil ?_
     refine TQ.then_ ?_
     refine TC.back hb2667 ?_
     refine TC.cond_p rfl h (fun hc2703 h=>?_) (fun hc2703 h=>?_)
     ·
      refine TC.region ?_
      refine TV rfl rfl rfl (Val.move rfl) ?_
      refine TV rfl rfl rfl (Val.fieldAddrB Try.underlying24 rfl fsz22 rfl rfl rfl) ?_
      refine TV rfl rfl rfl (Val.loadB 3 agg22 rfl rfl rfl) ?_
      obtain ⟨y2704,hx2705,h⟩:=bind_no h
      obtain ⟨ad2706,cs2712,hA2707,hi2708,hj2709,hcl2710,hK2711⟩:=Rd.at hr7 hx2705
      obtain ⟨A2713,c2714,rfl,hr2715,hl2716⟩:=k24_openR hK2711
      refine TV rfl rfl rfl (Val.indexAddr Try.underlying22 fsz24 rfl hA2707 rfl hi2708 hj2709) ?_
      refine TV rfl rfl rfl (Val.loadsS (cs:=[VI y2704.f0,.string y2704.f1,VI y2704.f2,.slice A2713 y2704.f3.length c2714]) agg24 fsz24 rfl rfl (Cl.sub (off:=0) (n:=4) hcl2710 rfl)) ?_
      refine TK.sel (Ls:=[Blk b1 [.slice A2681 y2679.length c2682] 46,Row Kd.string 9 (.slice A2681 y2679.length c2682) y2679,Row Kd.string 9 (.slice (some ⟨b2662,0,none⟩) 1 1) ([(⟨#[105,102]⟩:ByteArray)]:List ByteArray),Blk b9 [VI a1.f0,.string a1.f1,VI a1.f2,.slice A5 a1.f3.length c6] 24]) [1,2,0,3] 4 rfl rfl rfl ?_
      obtain ⟨y2717,hy2718,h⟩:=bind_no h
      refine TL.cons (TL.callV (Lin:=[Blk b1 [.slice A2681 y2679.length c2682] 46,Row Kd.string 9 (.slice A2681 y2679.length c2682) y2679]) (args:=[VP b1 0,.string (⟨#[101,108,115,101]⟩:ByteArray),.agg #[VI y2704.f0,.string y2704.f1,VI y2704.f2,.slice A2713 y2704.f3.length c2714],.slice none 0 0]) rfl rfl rfl hbd34 rfl rfl (ih34 (a0_0:=y2679) (a1:=(⟨#[101,108,115,101]⟩:ByteArray)) (a2:=y2704) (a3:=([]:List ByteArray)) hr2715 hl2716 (Rd.nil _ _) (Nat.le_refl 0) hy2718) rfl ?_)
      rintro _ _ _ _ ⟨rfl,A2719,c2720,rfl,rfl⟩
      refine TL.nil ?_
      refine TQ.inB ?_
      obtain rfl:=Option.some.inj h
      exact TQ.fin (.inr rfl) rfl Try.results36 .nil rfl (FRel.mk (Ls:=[Blk b1 [.slice A2719 y2717.length c2720] 46,Row Kd.string 9 (.slice A2719 y2717.length c2720) y2717]) [0,1] 4 (Gd.le.refl _) rfl rfl rfl ⟨rfl,A2719,c2720,rfl,rfl⟩)
     ·
      refine TC.skip ?_
      refine TQ.inB ?_
      obtain rfl:=Option.some.inj h
      exact TQ.fin (.inr rfl) rfl Try.results36 .nil rfl (FRel.mk (Ls:=[Blk b1 [.slice A2681 y2679.length c2682] 46,Row Kd.string 9 (.slice A2681 y2679.length c2682) y2679]) [1,2] 4 (Gd.le.refl _) rfl rfl rfl ⟨rfl,A2681,c2682,rfl,rfl⟩)
    ·
     refine TC.seq ?_
     refine TC.region ?_
     refine TV rfl rfl rfl (Val.cmp rfl rfl run_eql) ?_
     refine TV rfl rfl rfl (Val.assign rfl) ?_
     refine TL.nil ?_
     refine TQ.then_ ?_
     refine TC.cond_p rfl h (fun hc2835 h=>?_) (fun hc2835 h=>?_)
     ·
      refine TC.seq ?_
      refine TC.region ?_
      refine TV rfl rfl rfl (Val.move rfl) ?_
      refine TL.cons (TL.buildSlice (xs:=[.const (.string (⟨#[102,111,114]⟩:ByteArray))]) (vs:=[.string (⟨#[102,111,114]⟩:ByteArray)]) (cs:=[.string (⟨#[102,111,114]⟩:ByteArray)]) rfl rfl Try.underlying44 zs9 rfl rfl rfl rfl rfl rfl rfl rfl (fun b2836=>?_))
      refine TK.new (Els.nil Kd.string) ?_
      refine TK.new (El.of (k:=Kd.string) (xv:=(⟨#[102,111,114]⟩:ByteArray)) (cs:=[.string (⟨#[102,111,114]⟩:ByteArray)]) (fun W B=>rfl)) ?_
      refine TK.sel (Ls:=[Els Kd.string [] [],El Kd.string (⟨#[102,111,114]⟩:ByteArray) [.string (⟨#[102,111,114]⟩:ByteArray)],Blk b2836 [.string (⟨#[102,111,114]⟩:ByteArray)] 9,Blk b9 [VI a1.f0,.string a1.f1,VI a1.f2,.slice A5 a1.f3.length c6] 24,Blk b1 [.slice A2 a0_0.length c3] 46,Row Kd.string 9 (.slice A2 a0_0.length c3) a0_0]) [1,0,2,3,4,5] 6 rfl rfl rfl ?_
      refine TK.two (ch:=Els Kd.string [(⟨#[102,111,114]⟩:ByteArray)] [.string (⟨#[102,111,114]⟩:ByteArray)]) (Els.snoc Kd.string) ?_
      refine TK.sel (Ls:=[Blk b2836 [.string (⟨#[102,111,114]⟩:ByteArray)] 9,Els Kd.string [(⟨#[102,111,114]⟩:ByteArray)] [.string (⟨#[102,111,114]⟩:ByteArray)],Blk b9 [VI a1.f0,.string a1.f1,VI a1.f2,.slice A5 a1.f3.length c6] 24,Blk b1 [.slice A2 a0_0.length c3] 46,Row Kd.string 9 (.slice A2 a0_0.length c3) a0_0]) [1,0,2,3,4] 5 rfl rfl rfl ?_
      refine TK.two (ch:=Row Kd.string 9 (.slice (some ⟨b2836,0,none⟩) 1 1) ([(⟨#[102,111,114]⟩:ByteArray)]:List ByteArray)) (Row.lit Kd.string rfl rfl) ?_
      refine TK.share (fun G2838 e2839 hs2840 hb2841=>?_)
      have rd2842:Rd G2838 Kd.string (some ⟨b2836,0,none⟩) ([(⟨#[102,111,114]⟩:ByteArray)]:List ByteArray):=Rd.row hs2840
      have le2843:([(⟨#[102,111,114]⟩:ByteArray)]:List ByteArray).length ≤ 1:=Row.le hs2840
      refine TK.sel (Ls:=[Blk b1 [.slice A2 a0_0.length c3] 46,Row Kd.string 9 (.slice A2 a0_0.length c3) a0_0,Blk b9 [VI a1.f0,.string a1.f1,VI a1.f2,.slice A5 a1.f3.length c6] 24]) [1,2,0] 3 rfl rfl rfl ?_
      obtain ⟨y2844,hy2845,h⟩:=bind_no h
      refine TL.cons (TL.callV (Lin:=[Blk b1 [.slice A2 a0_0.length c3] 46,Row Kd.string 9 (.slice A2 a0_0.length c3) a0_0]) (args:=[VP b1 0,.slice (some ⟨b2836,0,none⟩) 1 1]) rfl rfl rfl hbd32 rfl rfl (parse_writer_put.calls (a0_0:=a0_0) (a1:=([(⟨#[102,111,114]⟩:ByteArray)]:List ByteArray)) rd2842 le2843 hy2845) rfl ?_)
      rintro _ _ _ _ ⟨rfl,A2846,c2847,rfl,rfl⟩
      refine TL.nil ?_
      refine TQ.then_ ?_
      refine TC.region ?_
      refine TV rfl rfl rfl (Val.move rfl) ?_
      refine TV rfl rfl rfl (Val.fieldAddrB Try.underlying24 rfl fsz22 rfl rfl rfl) ?_
      refine TV rfl rfl rfl (Val.loadB 2 agg22 rfl rfl rfl) ?_
      obtain ⟨y2849,hy2850,h⟩:=bind_no h
      obtain ⟨hr2851,hl2852⟩:=Rd.cut (hr7.up e2839) hl8 hy2850
      refine TV rfl rfl rfl (Val.cut Try.underlying22 fsz24 rfl rfl hl8 rfl rfl hy2850) ?_
      obtain ⟨y2853,hy2854,h⟩:=bind_no h
      refine TL.cons (TL.callV (Lin:=[Blk b1 [.slice A2846 y2844.length c2847] 46,Row Kd.string 9 (.slice A2846 y2844.length c2847) y2844]) (args:=[VP b1 0,.slice (cutA A5 c6 (0:Int).toNat 4) y2849.length (c6 - (0:Int).toNat),.string (⟨#[]⟩:ByteArray)]) rfl rfl rfl hbd50 rfl rfl (ih50 (a0_0:=y2844) (a1:=y2849) (a2:=(⟨#[]⟩:ByteArray)) hr2851 hl2852 hy2854) rfl ?_)
      rintro _ _ _ _ ⟨rfl,A2855,c2856,rfl,rfl⟩
      refine TL.nil ?_
      refine TQ.inB ?_
      refine TQ.back hb2841 ?_
      obtain rfl:=Option.some.inj h
      exact TQ.fin (.inr rfl) rfl Try.results36 .nil rfl (FRel.mk (Ls:=[Blk b1 [.slice A2855 y2853.length c2856] 46,Row Kd.string 9 (.slice A2855 y2853.length c2856) y2853]) [1,2] 4 (Gd.le.refl _) rfl rfl rfl ⟨rfl,A2855,c2856,rfl,rfl⟩)
     ·
      refine TC.seq ?_
      refine TC.region ?_
      refine TV rfl rfl rfl (Val.cmp rfl rfl run_eql) ?_
      refine TV rfl rfl rfl (Val.assign rfl) ?_
      refine TL.nil ?_
      refine TQ.then_ ?_
      refine TC.cond_p rfl h (fun hc2948 h=>?_) (fun hc2948 h=>?_)
      ·
       refine TC.seq ?_
       refine TC.region ?_
       refine TV rfl rfl rfl (Val.move rfl) ?_
       refine TL.cons (TL.buildSlice (xs:=[.const (.string (⟨#[114,101,116,117,114,110]⟩:ByteArray))]) (vs:=[.string (⟨#[114,101,116,117,114,110]⟩:ByteArray)]) (cs:=[.string (⟨#[114,101,116,117,114,110]⟩:ByteArray)]) rfl rfl Try.underlying44 zs9 rfl rfl rfl rfl rfl rfl rfl rfl (fun b2949=>?_))
       refine TK.new (Els.nil Kd.string) ?_
       refine TK.new (El.of (k:=Kd.string) (xv:=(⟨#[114,101,116,117,114,110]⟩:ByteArray)) (cs:=[.string (⟨#[114,101,116,117,114,110]⟩:ByteArray)]) (fun W B=>rfl)) ?_
       refine TK.sel (Ls:=[Els Kd.string [] [],El Kd.string (⟨#[114,101,116,117,114,110]⟩:ByteArray) [.string (⟨#[114,101,116,117,114,110]⟩:ByteArray)],Blk b2949 [.string (⟨#[114,101,116,117,114,110]⟩:ByteArray)] 9,Blk b9 [VI a1.f0,.string a1.f1,VI a1.f2,.slice A5 a1.f3.length c6] 24,Blk b1 [.slice A2 a0_0.length c3] 46,Row Kd.string 9 (.slice A2 a0_0.length c3) a0_0]) [1,0,2,3,4,5] 6 rfl rfl rfl ?_
       refine TK.two (ch:=Els Kd.string [(⟨#[114,101,116,117,114,110]⟩:ByteArray)] [.string (⟨#[114,101,116,117,114,110]⟩:ByteArray)]) (Els.snoc Kd.string) ?_
       refine TK.sel (Ls:=[Blk b2949 [.string (⟨#[114,101,116,117,114,110]⟩:ByteArray)] 9,Els Kd.string [(⟨#[114,101,116,117,114,110]⟩:ByteArray)] [.string (⟨#[114,101,116,117,114,110]⟩:ByteArray)],Blk b9 [VI a1.f0,.string a1.f1,VI a1.f2,.slice A5 a1.f3.length c6] 24,Blk b1 [.slice A2 a0_0.length c3] 46,Row Kd.string 9 (.slice A2 a0_0.length c3) a0_0]) [1,0,2,3,4] 5 rfl rfl rfl ?_
       refine TK.two (ch:=Row Kd.string 9 (.slice (some ⟨b2949,0,none⟩) 1 1) ([(⟨#[114,101,116,117,114,110]⟩:ByteArray)]:List ByteArray)) (Row.lit Kd.string rfl rfl) ?_
       refine TK.share (fun G2951 e2952 hs2953 hb2954=>?_)
       have rd2955:Rd G2951 Kd.string (some ⟨b2949,0,none⟩) ([(⟨#[114,101,116,117,114,110]⟩:ByteArray)]:List ByteArray):=Rd.row hs2953
       have le2956:([(⟨#[114,101,116,117,114,110]⟩:ByteArray)]:List ByteArray).length ≤ 1:=Row.le hs2953
       refine TK.sel (Ls:=[Blk b1 [.slice A2 a0_0.length c3] 46,Row Kd.string 9 (.slice A2 a0_0.length c3) a0_0,Blk b9 [VI a1.f0,.string a1.f1,VI a1.f2,.slice A5 a1.f3.length c6] 24]) [1,2,0] 3 rfl rfl rfl ?_
       obtain ⟨y2957,hy2958,h⟩:=bind_no h
       refine TL.cons (TL.callV (Lin:=[Blk b1 [.slice A2 a0_0.length c3] 46,Row Kd.string 9 (.slice A2 a0_0.length c3) a0_0]) (args:=[VP b1 0,.slice (some ⟨b2949,0,none⟩) 1 1]) rfl rfl rfl hbd32 rfl rfl (parse_writer_put.calls (a0_0:=a0_0) (a1:=([(⟨#[114,101,116,117,114,110]⟩:ByteArray)]:List ByteArray)) rd2955 le2956 hy2958) rfl ?_)
       rintro _ _ _ _ ⟨rfl,A2959,c2960,rfl,rfl⟩
       refine TL.nil ?_
       refine TQ.then_ ?_
       refine TC.seq ?_
       refine TC.region ?_
       refine TV rfl rfl rfl (Val.move rfl) ?_
       refine TV rfl rfl rfl (Val.fieldAddrB Try.underlying24 rfl fsz22 rfl rfl rfl) ?_
       refine TV rfl rfl rfl (Val.loadB 2 agg22 rfl rfl rfl) ?_
       refine TV rfl rfl rfl (Val.fieldAddrB Try.underlying24 rfl fsz22 rfl rfl rfl) ?_
       refine TV rfl rfl rfl (Val.loadB 2 agg22 rfl rfl rfl) ?_
       refine TV rfl rfl rfl (Val.len Try.underlying22 rfl) ?_
       refine TV rfl rfl rfl (Val.min2 rfl rfl) ?_
       obtain ⟨y2962,hy2963,h⟩:=bind_no h
       obtain ⟨hr2964,hl2965⟩:=Rd.cut (hr7.up e2952) hl8 hy2963
       refine TV rfl rfl rfl (Val.cut Try.underlying22 fsz24 rfl rfl hl8 rfl rfl hy2963) ?_
       obtain ⟨y2966,hy2967,h⟩:=bind_no h
       refine TL.cons (TL.callV (Lin:=[Blk b1 [.slice A2959 y2957.length c2960] 46,Row Kd.string 9 (.slice A2959 y2957.length c2960) y2957]) (args:=[VP b1 0,.slice (cutA A5 c6 (0:Int).toNat 4) y2962.length (c6 - (0:Int).toNat),.string (⟨#[]⟩:ByteArray)]) rfl rfl rfl hbd50 rfl rfl (ih50 (a0_0:=y2957) (a1:=y2962) (a2:=(⟨#[]⟩:ByteArray)) hr2964 hl2965 hy2967) rfl ?_)
       rintro _ _ _ _ ⟨rfl,A2968,c2969,rfl,rfl⟩
       refine TL.nil ?_
       refine TQ.then_ ?_
       refine TC.region ?_
       refine TV rfl rfl rfl (Val.move rfl) ?_
       refine TL.cons (TL.buildSlice (xs:=[.const (.string (⟨#[59]⟩:ByteArray))]) (vs:=[.string (⟨#[59]⟩:ByteArray)]) (cs:=[.string (⟨#[59]⟩:ByteArray)]) rfl rfl Try.underlying44 zs9 rfl rfl rfl rfl rfl rfl rfl rfl (fun b2971=>?_))
       refine TK.new (Els.nil Kd.string) ?_
       refine TK.new (El.of (k:=Kd.string) (xv:=(⟨#[59]⟩:ByteArray)) (cs:=[.string (⟨#[59]⟩:ByteArray)]) (fun W B=>rfl)) ?_
       refine TK.sel (Ls:=[Els Kd.string [] [],El Kd.string (⟨#[59]⟩:ByteArray) [.string (⟨#[59]⟩:ByteArray)],Blk b2971 [.string (⟨#[59]⟩:ByteArray)] 9,Blk b1 [.slice A2968 y2966.length c2969] 46,Row Kd.string 9 (.slice A2968 y2966.length c2969) y2966,Blk b9 [VI a1.f0,.string a1.f1,VI a1.f2,.slice A5 a1.f3.length c6] 24]) [1,0,2,3,4,5] 6 rfl rfl rfl ?_
       refine TK.two (ch:=Els Kd.string [(⟨#[59]⟩:ByteArray)] [.string (⟨#[59]⟩:ByteArray)]) (Els.snoc Kd.string) ?_
       refine TK.sel (Ls:=[Blk b2971 [.string (⟨#[59]⟩:ByteArray)] 9,Els Kd.string [(⟨#[59]⟩:ByteArray)] [.string (⟨#[59]⟩:ByteArray)],Blk b1 [.slice A2968 y2966.length c2969] 46,Row Kd.string 9 (.slice A2968 y2966.length c2969) y2966,Blk b9 [VI a1.f0,.string a1.f1,VI a1.f2,.slice A5 a1.f3.length c6] 24]) [1,0,2,3,4] 5 rfl rfl rfl ?_
       refine TK.two (ch:=Row Kd.string 9 (.slice (some ⟨b2971,0,none⟩) 1 1) ([(⟨#[59]⟩:ByteArray)]:List ByteArray)) (Row.lit Kd.string rfl rfl) ?_
       refine TK.share (fun G2973 e2974 hs2975 hb2976=>?_)
       have rd2977:Rd G2973 Kd.string (some ⟨b2971,0,none⟩) ([(⟨#[59]⟩:ByteArray)]:List ByteArray):=Rd.row hs2975
       have le2978:([(⟨#[59]⟩:ByteArray)]:List ByteArray).length ≤ 1:=Row.le hs2975
       obtain ⟨y2979,hy2980,h⟩:=bind_no h
       refine TL.cons (TL.callV (Lin:=[Blk b1 [.slice A2968 y2966.length c2969] 46,Row Kd.string 9 (.slice A2968 y2966.length c2969) y2966]) (args:=[VP b1 0,.slice (some ⟨b2971,0,none⟩) 1 1]) rfl rfl rfl hbd32 rfl rfl (parse_writer_put.calls (a0_0:=y2966) (a1:=([(⟨#[59]⟩:ByteArray)]:List ByteArray)) rd2977 le2978 hy2980) rfl ?_)
       rintro _ _ _ _ ⟨rfl,A2981,c2982,rfl,rfl⟩
       refine TL.nil ?_
       refine TQ.inB ?_
       refine TQ.back hb2976 ?_
       refine TQ.back hb2954 ?_
       obtain rfl:=Option.some.inj h
       exact TQ.fin (.inr rfl) rfl Try.results36 .nil rfl (FRel.mk (Ls:=[Blk b1 [.slice A2981 y2979.length c2982] 46,Row Kd.string 9 (.slice A2981 y2979.length c2982) y2979]) [2,3] 5 (Gd.le.refl _) rfl rfl rfl ⟨rfl,A2981,c2982,rfl,rfl⟩)
      ·
       refine TC.seq ?_
       refine TC.region ?_
       refine TV rfl rfl rfl (Val.cmp rfl rfl run_eql) ?_
       refine TV rfl rfl rfl (Val.assign rfl) ?_
       refine TL.nil ?_
       refine TQ.then_ ?_
       refine TC.cond_p rfl h (fun hc3038 h=>?_) (fun hc3038 h=>?_)
       ·
        refine TC.region ?_
        refine TV rfl rfl rfl (Val.move rfl) ?_
        refine TV rfl rfl rfl (Val.fieldAddrB Try.underlying24 rfl fsz22 rfl rfl rfl) ?_
        refine TV rfl rfl rfl (Val.loadB 0 agg22 rfl rfl rfl) ?_
        obtain ⟨y3039,hx3040,h⟩:=bind_no h
        obtain ⟨ad3041,cs3047,hA3042,hi3043,hj3044,hcl3045,hK3046⟩:=Rd.at hr7 hx3040
        obtain ⟨A3048,c3049,rfl,hr3050,hl3051⟩:=k24_openR hK3046
        refine TV rfl rfl rfl (Val.indexAddr Try.underlying22 fsz24 rfl hA3042 rfl hi3043 hj3044) ?_
        refine TV rfl rfl rfl (Val.loadsS (cs:=[VI y3039.f0,.string y3039.f1,VI y3039.f2,.slice A3048 y3039.f3.length c3049]) agg24 fsz24 rfl rfl (Cl.sub (off:=0) (n:=4) hcl3045 rfl)) ?_
        refine TL.cons (TL.buildSlice (xs:=[.const (.string (⟨#[59]⟩:ByteArray))]) (vs:=[.string (⟨#[59]⟩:ByteArray)]) (cs:=[.string (⟨#[59]⟩:ByteArray)]) rfl rfl Try.underlying44 zs9 rfl rfl rfl rfl rfl rfl rfl rfl (fun b3052=>?_))
        refine TK.new (Els.nil Kd.string) ?_
        refine TK.new (El.of (k:=Kd.string) (xv:=(⟨#[59]⟩:ByteArray)) (cs:=[.string (⟨#[59]⟩:ByteArray)]) (fun W B=>rfl)) ?_
        refine TK.sel (Ls:=[Els Kd.string [] [],El Kd.string (⟨#[59]⟩:ByteArray) [.string (⟨#[59]⟩:ByteArray)],Blk b3052 [.string (⟨#[59]⟩:ByteArray)] 9,Blk b9 [VI a1.f0,.string a1.f1,VI a1.f2,.slice A5 a1.f3.length c6] 24,Blk b1 [.slice A2 a0_0.length c3] 46,Row Kd.string 9 (.slice A2 a0_0.length c3) a0_0]) [1,0,2,3,4,5] 6 rfl rfl rfl ?_
        refine TK.two (ch:=Els Kd.string [(⟨#[59]⟩:ByteArray)] [.string (⟨#[59]⟩:ByteArray)]) (Els.snoc Kd.string) ?_
        refine TK.sel (Ls:=[Blk b3052 [.string (⟨#[59]⟩:ByteArray)] 9,Els Kd.string [(⟨#[59]⟩:ByteArray)] [.string (⟨#[59]⟩:ByteArray)],Blk b9 [VI a1.f0,.string a1.f1,VI a1.f2,.slice A5 a1.f3.length c6] 24,Blk b1 [.slice A2 a0_0.length c3] 46,Row Kd.string 9 (.slice A2 a0_0.length c3) a0_0]) [1,0,2,3,4] 5 rfl rfl rfl ?_
        refine TK.two (ch:=Row Kd.string 9 (.slice (some ⟨b3052,0,none⟩) 1 1) ([(⟨#[59]⟩:ByteArray)]:List ByteArray)) (Row.lit Kd.string rfl rfl) ?_
        refine TK.share (fun G3054 e3055 hs3056 hb3057=>?_)
        have rd3058:Rd G3054 Kd.string (some ⟨b3052,0,none⟩) ([(⟨#[59]⟩:ByteArray)]:List ByteArray):=Rd.row hs3056
        have le3059:([(⟨#[59]⟩:ByteArray)]:List ByteArray).length ≤ 1:=Row.le hs3056
        refine TK.sel (Ls:=[Blk b1 [.slice A2 a0_0.length c3] 46,Row Kd.string 9 (.slice A2 a0_0.length c3) a0_0,Blk b9 [VI a1.f0,.string a1.f1,VI a1.f2,.slice A5 a1.f3.length c6] 24]) [1,2,0] 3 rfl rfl rfl ?_
        obtain ⟨y3060,hy3061,h⟩:=bind_no h
        refine TL.cons (TL.callV (Lin:=[Blk b1 [.slice A2 a0_0.length c3] 46,Row Kd.string 9 (.slice A2 a0_0.length c3) a0_0]) (args:=[VP b1 0,.string (⟨#[112,114,105,110,116]⟩:ByteArray),.agg #[VI y3039.f0,.string y3039.f1,VI y3039.f2,.slice A3048 y3039.f3.length c3049],.slice (some ⟨b3052,0,none⟩) 1 1]) rfl rfl rfl hbd34 rfl rfl (ih34 (a0_0:=a0_0) (a1:=(⟨#[112,114,105,110,116]⟩:ByteArray)) (a2:=y3039) (a3:=([(⟨#[59]⟩:ByteArray)]:List ByteArray)) (hr3050.up e3055) hl3051 rd3058 le3059 hy3061) rfl ?_)
        rintro _ _ _ _ ⟨rfl,A3062,c3063,rfl,rfl⟩
        refine TL.nil ?_
        refine TQ.inB ?_
        refine TQ.back hb3057 ?_
        obtain rfl:=Option.some.inj h
        exact TQ.fin (.inr rfl) rfl Try.results36 .nil rfl (FRel.mk (Ls:=[Blk b1 [.slice A3062 y3060.length c3063] 46,Row Kd.string 9 (.slice A3062 y3060.length c3063) y3060]) [1,2] 4 (Gd.le.refl _) rfl rfl rfl ⟨rfl,A3062,c3063,rfl,rfl⟩)
       ·
        refine TC.seq ?_
        refine TC.region ?_
        refine TV rfl rfl rfl (Val.cmp rfl rfl run_eql) ?_
        refine TV rfl rfl rfl (Val.assign rfl) ?_
        refine TL.nil ?_
        refine TQ.then_ ?_
        refine TC.cond_p rfl h (fun hc3092 h=>?_) (fun hc3092 h=>?_)
        ·
         refine TC.region ?_
         refine TV rfl rfl rfl (Val.move rfl) ?_
         refine TV rfl rfl rfl (Val.fieldAddrB Try.underlying24 rfl fsz22 rfl rfl rfl) ?_
         refine TV rfl rfl rfl (Val.loadB 0 agg22 rfl rfl rfl) ?_
         obtain ⟨y3093,hx3094,h⟩:=bind_no h
         obtain ⟨ad3095,cs3101,hA3096,hi3097,hj3098,hcl3099,hK3100⟩:=Rd.at hr7 hx3094
         obtain ⟨A3102,c3103,rfl,hr3104,hl3105⟩:=k24_openR hK3100
         refine TV rfl rfl rfl (Val.indexAddr Try.underlying22 fsz24 rfl hA3096 rfl hi3097 hj3098) ?_
         refine TV rfl rfl rfl (Val.loadsS (cs:=[VI y3093.f0,.string y3093.f1,VI y3093.f2,.slice A3102 y3093.f3.length c3103]) agg24 fsz24 rfl rfl (Cl.sub (off:=0) (n:=4) hcl3099 rfl)) ?_
         refine TL.cons (TL.buildSlice (xs:=[.const (.string (⟨#[59]⟩:ByteArray))]) (vs:=[.string (⟨#[59]⟩:ByteArray)]) (cs:=[.string (⟨#[59]⟩:ByteArray)]) rfl rfl Try.underlying44 zs9 rfl rfl rfl rfl rfl rfl rfl rfl (fun b3106=>?_))
         refine TK.new (Els.nil Kd.string) ?_
         refine TK.new (El.of (k:=Kd.string) (xv:=(⟨#[59]⟩:ByteArray)) (cs:=[.string (⟨#[59]⟩:ByteArray)]) (fun W B=>rfl)) ?_
         refine TK.sel (Ls:=[Els Kd.string [] [],El Kd.string (⟨#[59]⟩:ByteArray) [.string (⟨#[59]⟩:ByteArray)],Blk b3106 [.string (⟨#[59]⟩:ByteArray)] 9,Blk b9 [VI a1.f0,.string a1.f1,VI a1.f2,.slice A5 a1.f3.length c6] 24,Blk b1 [.slice A2 a0_0.length c3] 46,Row Kd.string 9 (.slice A2 a0_0.length c3) a0_0]) [1,0,2,3,4,5] 6 rfl rfl rfl ?_
         refine TK.two (ch:=Els Kd.string [(⟨#[59]⟩:ByteArray)] [.string (⟨#[59]⟩:ByteArray)]) (Els.snoc Kd.string) ?_
         refine TK.sel (Ls:=[Blk b3106 [.string (⟨#[59]⟩:ByteArray)] 9,Els Kd.string [(⟨#[59]⟩:ByteArray)] [.string (⟨#[59]⟩:ByteArray)],Blk b9 [VI a1.f0,.string a1.f1,VI a1.f2,.slice A5 a1.f3.length c6] 24,Blk b1 [.slice A2 a0_0.length c3] 46,Row Kd.string 9 (.slice A2 a0_0.length c3) a0_0]) [1,0,2,3,4] 5 rfl rfl rfl ?_
         refine TK.two (ch:=Row Kd.string 9 (.slice (some ⟨b3106,0,none⟩) 1 1) ([(⟨#[59]⟩:ByteArray)]:List ByteArray)) (Row.lit Kd.string rfl rfl) ?_
         refine TK.share (fun G3108 e3109 hs3110 hb3111=>?_)
         have rd3112:Rd G3108 Kd.string (some ⟨b3106,0,none⟩) ([(⟨#[59]⟩:ByteArray)]:List ByteArray):=Rd.row hs3110
         have le3113:([(⟨#[59]⟩:ByteArray)]:List ByteArray).length ≤ 1:=Row.le hs3110
         refine TK.sel (Ls:=[Blk b1 [.slice A2 a0_0.length c3] 46,Row Kd.string 9 (.slice A2 a0_0.length c3) a0_0,Blk b9 [VI a1.f0,.string a1.f1,VI a1.f2,.slice A5 a1.f3.length c6] 24]) [1,2,0] 3 rfl rfl rfl ?_
         obtain ⟨y3114,hy3115,h⟩:=bind_no h
         refine TL.cons (TL.callV (Lin:=[Blk b1 [.slice A2 a0_0.length c3] 46,Row Kd.string 9 (.slice A2 a0_0.length c3) a0_0]) (args:=[VP b1 0,.string (⟨#[]⟩:ByteArray),.agg #[VI y3093.f0,.string y3093.f1,VI y3093.f2,.slice A3102 y3093.f3.length c3103],.slice (some ⟨b3106,0,none⟩) 1 1]) rfl rfl rfl hbd34 rfl rfl (ih34 (a0_0:=a0_0) (a1:=(⟨#[]⟩:ByteArray)) (a2:=y3093) (a3:=([(⟨#[59]⟩:ByteArray)]:List ByteArray)) (hr3104.up e3109) hl3105 rd3112 le3113 hy3115) rfl ?_)
         rintro _ _ _ _ ⟨rfl,A3116,c3117,rfl,rfl⟩
         refine TL.nil ?_
         refine TQ.inB ?_
         refine TQ.back hb3111 ?_
         obtain rfl:=Option.some.inj h
         exact TQ.fin (.inr rfl) rfl Try.results36 .nil rfl (FRel.mk (Ls:=[Blk b1 [.slice A3116 y3114.length c3117] 46,Row Kd.string 9 (.slice A3116 y3114.length c3117) y3114]) [1,2] 4 (Gd.le.refl _) rfl rfl rfl ⟨rfl,A3116,c3117,rfl,rfl⟩)
        ·
         refine TC.skip ?_
         refine TQ.inB ?_
         obtain rfl:=Option.some.inj h
         exact TQ.fin (.inr rfl) rfl Try.results36 .nil rfl (FRel.mk (Ls:=[Blk b1 [.slice A2 a0_0.length c3] 46,Row Kd.string 9 (.slice A2 a0_0.length c3) a0_0]) [1,2] 3 (Gd.le.refl _) rfl rfl rfl ⟨rfl,A2,c3,rfl,rfl⟩)
def parse_writer_expr.g (rec9:(S24 → Option ByteArray)) (rec20:((List ByteArray) → S24 → Option (List ByteArray))) (rec33:((List ByteArray) → S24 → Option (List ByteArray))) (rec34:((List ByteArray) → ByteArray → S24 → (List ByteArray) → Option (List ByteArray))) (rec35:((List ByteArray) → S24 → Option (List ByteArray))) (rec36:((List ByteArray) → S24 → Option (List ByteArray))) (rec37:((List ByteArray) → S24 → Option (List ByteArray))) (rec50:((List ByteArray) → (List S24) → ByteArray → Option (List ByteArray))) (a0_0:(List ByteArray)) (a1:S24):Option (List ByteArray):=jn (γ:=(List ByteArray)) (fun (x2522:Bool)=>(if x2522=true then (parse_writer_put.f a0_0 ([a1.f1]:List ByteArray)).bind fun (y2938:(List ByteArray))=>some y2938 else (if a1.f0=19 then (at? a1.f3 0).bind fun y3361=>(rec34 a0_0 (⟨#[40]⟩:ByteArray) y3361 ([a1.f1]:List ByteArray)).bind fun (y3382:(List ByteArray))=>(at? a1.f3 1).bind fun y3387=>(rec34 y3382 (⟨#[]⟩:ByteArray) y3387 ([(⟨#[41]⟩:ByteArray)]:List ByteArray)).bind fun (y3408:(List ByteArray))=>some y3408 else (if a1.f0=20 then (parse_writer_put.f a0_0 ([(⟨#[40]⟩:ByteArray)]:List ByteArray)).bind fun (y3734:(List ByteArray))=>(at? a1.f3 0).bind fun y3739=>(rec34 y3734 (⟨#[45]⟩:ByteArray) y3739 ([(⟨#[41]⟩:ByteArray)]:List ByteArray)).bind fun (y3760:(List ByteArray))=>some y3760 else (if a1.f0=21 then (parse_writer_put.f a0_0 ([(⟨#[40]⟩:ByteArray)]:List ByteArray)).bind fun (y4046:(List ByteArray))=>(at? a1.f3 0).bind fun y4051=>(rec34 y4046 (⟨#[42]⟩:ByteArray) y4051 ([(⟨#[41]⟩:ByteArray)]:List ByteArray)).bind fun (y4072:(List ByteArray))=>some y4072 else (if a1.f0=22 then (parse_writer_put.f a0_0 ([(⟨#[40]⟩:ByteArray)]:List ByteArray)).bind fun (y4318:(List ByteArray))=>(at? a1.f3 0).bind fun y4323=>(rec34 y4318 (⟨#[38]⟩:ByteArray) y4323 ([(⟨#[41]⟩:ByteArray)]:List ByteArray)).bind fun (y4344:(List ByteArray))=>some y4344 else (if a1.f0=23 then (at? a1.f3 0).bind fun y4542=>(rec34 a0_0 (⟨#[]⟩:ByteArray) y4542 ([(⟨#[91]⟩:ByteArray)]:List ByteArray)).bind fun (y4563:(List ByteArray))=>(at? a1.f3 1).bind fun y4568=>(rec34 y4563 (⟨#[]⟩:ByteArray) y4568 ([(⟨#[93]⟩:ByteArray)]:List ByteArray)).bind fun (y4589:(List ByteArray))=>some y4589 else (if a1.f0=24 then (at? a1.f3 0).bind fun y4760=>(rec34 a0_0 (⟨#[]⟩:ByteArray) y4760 ([(⟨#[46]⟩:ByteArray),a1.f1]:List ByteArray)).bind fun (y4781:(List ByteArray))=>some y4781 else (if a1.f0=25 then (parse_writer_put.f a0_0 ([a1.f1,(⟨#[40]⟩:ByteArray)]:List ByteArray)).bind fun (y4881:(List ByteArray))=>(rec50 y4881 a1.f3 (⟨#[44]⟩:ByteArray)).bind fun (y4886:(List ByteArray))=>(parse_writer_put.f y4886 ([(⟨#[41]⟩:ByteArray)]:List ByteArray)).bind fun (y4899:(List ByteArray))=>some y4899 else (if a1.f0=26 then (parse_writer_put.f a0_0 ([(⟨#[110,101,119]⟩:ByteArray),(⟨#[40]⟩:ByteArray)]:List ByteArray)).bind fun (y4967:(List ByteArray))=>(at? a1.f3 0).bind fun y4972=>(rec34 y4967 (⟨#[]⟩:ByteArray) y4972 ([(⟨#[41]⟩:ByteArray)]:List ByteArray)).bind fun (y4993:(List ByteArray))=>some y4993 else (if a1.f0=27 then (parse_writer_put.f a0_0 ([(⟨#[114,101,97,100]⟩:ByteArray)]:List ByteArray)).bind fun (y5021:(List ByteArray))=>some y5021 else some a0_0))))))))))) (fun (j2523:(Bool → Option (List ByteArray)))=>(if a1.f0=17 then j2523 (decide (a1.f0=17)) else j2523 (decide (a1.f0=18))))
theorem parse_writer_expr.step (rec9:(S24 → Option ByteArray)) (rec20:((List ByteArray) → S24 → Option (List ByteArray))) (rec33:((List ByteArray) → S24 → Option (List ByteArray))) (rec34:((List ByteArray) → ByteArray → S24 → (List ByteArray) → Option (List ByteArray))) (rec35:((List ByteArray) → S24 → Option (List ByteArray))) (rec36:((List ByteArray) → S24 → Option (List ByteArray))) (rec37:((List ByteArray) → S24 → Option (List ByteArray))) (rec50:((List ByteArray) → (List S24) → ByteArray → Option (List ByteArray))) (ih9:∀ {G:Gd} {r:ByteArray} {a0:S24} {A1:Option Addr} {c2:Nat} (hr3:Rd G k24 A1 a0.f3) (hl4:a0.f3.length ≤ c2),rec9 a0=some r → Fn Try.prog 9 G [] [.agg #[VI a0.f0,.string a0.f1,VI a0.f2,.slice A1 a0.f3.length c2]] (parse_Text.post G  r)) (ih20:∀ {G:Gd} {r:(List ByteArray)} {a0_0:(List ByteArray)} {a1:S24} {b1:Nat} {A2:Option Addr} {c3:Nat} {A5:Option Addr} {c6:Nat} (hr7:Rd G k24 A5 a1.f3) (hl8:a1.f3.length ≤ c6),rec20 a0_0 a1=some r → Fn Try.prog 20 G [Blk b1 [.slice A2 a0_0.length c3] 46,Row Kd.string 9 (.slice A2 a0_0.length c3) a0_0] [VP b1 0,.agg #[VI a1.f0,.string a1.f1,VI a1.f2,.slice A5 a1.f3.length c6]] (parse_writer_node.post G b1 A2 c3 A5 c6 a0_0 a1 r)) (ih33:∀ {G:Gd} {r:(List ByteArray)} {a0_0:(List ByteArray)} {a1:S24} {b1:Nat} {A2:Option Addr} {c3:Nat} {A5:Option Addr} {c6:Nat} (hr7:Rd G k24 A5 a1.f3) (hl8:a1.f3.length ≤ c6),rec33 a0_0 a1=some r → Fn Try.prog 33 G [Blk b1 [.slice A2 a0_0.length c3] 46,Row Kd.string 9 (.slice A2 a0_0.length c3) a0_0] [VP b1 0,.agg #[VI a1.f0,.string a1.f1,VI a1.f2,.slice A5 a1.f3.length c6]] (parse_writer_head.post G b1 A2 c3 A5 c6 a0_0 a1 r)) (ih34:∀ {G:Gd} {r:(List ByteArray)} {a0_0:(List ByteArray)} {a1:ByteArray} {a2:S24} {a3:(List ByteArray)} {b1:Nat} {A2:Option Addr} {c3:Nat} {A5:Option Addr} {c6:Nat} {A9:Option Addr} {c10:Nat} (hr7:Rd G k24 A5 a2.f3) (hl8:a2.f3.length ≤ c6) (hr11:Rd G Kd.string A9 a3) (hl12:a3.length ≤ c10),rec34 a0_0 a1 a2 a3=some r → Fn Try.prog 34 G [Blk b1 [.slice A2 a0_0.length c3] 46,Row Kd.string 9 (.slice A2 a0_0.length c3) a0_0] [VP b1 0,.string a1,.agg #[VI a2.f0,.string a2.f1,VI a2.f2,.slice A5 a2.f3.length c6],.slice A9 a3.length c10] (parse_writer_around.post G b1 A2 c3 A5 c6 A9 c10 a0_0 a1 a2 a3 r)) (ih35:∀ {G:Gd} {r:(List ByteArray)} {a0_0:(List ByteArray)} {a1:S24} {b1:Nat} {A2:Option Addr} {c3:Nat} {A5:Option Addr} {c6:Nat} (hr7:Rd G k24 A5 a1.f3) (hl8:a1.f3.length ≤ c6),rec35 a0_0 a1=some r → Fn Try.prog 35 G [Blk b1 [.slice A2 a0_0.length c3] 46,Row Kd.string 9 (.slice A2 a0_0.length c3) a0_0] [VP b1 0,.agg #[VI a1.f0,.string a1.f1,VI a1.f2,.slice A5 a1.f3.length c6]] (parse_writer_typ.post G b1 A2 c3 A5 c6 a0_0 a1 r)) (ih36:∀ {G:Gd} {r:(List ByteArray)} {a0_0:(List ByteArray)} {a1:S24} {b1:Nat} {A2:Option Addr} {c3:Nat} {A5:Option Addr} {c6:Nat} (hr7:Rd G k24 A5 a1.f3) (hl8:a1.f3.length ≤ c6),rec36 a0_0 a1=some r → Fn Try.prog 36 G [Blk b1 [.slice A2 a0_0.length c3] 46,Row Kd.string 9 (.slice A2 a0_0.length c3) a0_0] [VP b1 0,.agg #[VI a1.f0,.string a1.f1,VI a1.f2,.slice A5 a1.f3.length c6]] (parse_writer_statement.post G b1 A2 c3 A5 c6 a0_0 a1 r)) (ih37:∀ {G:Gd} {r:(List ByteArray)} {a0_0:(List ByteArray)} {a1:S24} {b1:Nat} {A2:Option Addr} {c3:Nat} {A5:Option Addr} {c6:Nat} (hr7:Rd G k24 A5 a1.f3) (hl8:a1.f3.length ≤ c6),rec37 a0_0 a1=some r → Fn Try.prog 37 G [Blk b1 [.slice A2 a0_0.length c3] 46,Row Kd.string 9 (.slice A2 a0_0.length c3) a0_0] [VP b1 0,.agg #[VI a1.f0,.string a1.f1,VI a1.f2,.slice A5 a1.f3.length c6]] (parse_writer_expr.post G b1 A2 c3 A5 c6 a0_0 a1 r)) (ih50:∀ {G:Gd} {r:(List ByteArray)} {a0_0:(List ByteArray)} {a1:(List S24)} {a2:ByteArray} {b1:Nat} {A2:Option Addr} {c3:Nat} {A5:Option Addr} {c6:Nat} (hr7:Rd G k24 A5 a1) (hl8:a1.length ≤ c6),rec50 a0_0 a1 a2=some r → Fn Try.prog 50 G [Blk b1 [.slice A2 a0_0.length c3] 46,Row Kd.string 9 (.slice A2 a0_0.length c3) a0_0] [VP b1 0,.slice A5 a1.length c6,.string a2] (parse_writer_list.post G b1 A2 c3 A5 c6 a0_0 a1 a2 r)) {G:Gd} {r:(List ByteArray)} {a0_0:(List ByteArray)} {a1:S24} {b1:Nat} {A2:Option Addr} {c3:Nat} {A5:Option Addr} {c6:Nat} (hr7:Rd G k24 A5 a1.f3) (hl8:a1.f3.length ≤ c6) (h:parse_writer_expr.g rec9 rec20 rec33 rec34 rec35 rec36 rec37 rec50 a0_0 a1=some r):Fn Try.prog 37 G [Blk b1 [.slice A2 a0_0.length c3] 46,Row Kd.string 9 (.slice A2 a0_0.length c3) a0_0] [VP b1 0,.agg #[VI a1.f0,.string a1.f1,VI a1.f2,.slice A5 a1.f3.length c6]] (parse_writer_expr.post G b1 A2 c3 A5 c6 a0_0 a1 r):=by
 refine Fn.intro (e:=[(0,VP b1 0),(1,.agg #[VI a1.f0,.string a1.f1,VI a1.f2,.slice A5 a1.f3.length c6])]) 126 Try.func37 rfl Try.ntmps37 rfl rfl (Nat.le_of_ble_eq_true rfl) (fun L=>?_)
 unfold parse_writer_expr.g at h
 refine TC.seq ?_
 refine TC.region ?_
 refine TL.cons (TL.box (cs:=[VI a1.f0,.string a1.f1,VI a1.f2,.slice A5 a1.f3.length c6]) rfl rfl rfl rfl (fun b9=>?_))
 refine TL.nil ?_
 refine TQ.then_ ?_
 refine TC.seq ?_
 refine TC.region ?_
 refine TV rfl rfl rfl (Val.fieldAddrB Try.underlying24 rfl fsz3 rfl rfl rfl) ?_
 refine TV rfl rfl rfl (Val.loadB 0 agg3 rfl rfl rfl) ?_
 refine TL.nil ?_
 refine TQ.then_ ?_
 refine TC.block ?_
 refine TC.seq ?_
 refine TC.seq ?_
 refine TC.region ?_
 refine TV rfl rfl rfl (Val.cmp rfl rfl run_eql) ?_
 refine TV rfl rfl rfl (Val.assign rfl) ?_
 refine TL.nil ?_
 refine TQ.then_ ?_
 obtain ⟨j2523,hj2523,h⟩:=jn_no h
 refine TC.tail (fun a W=>∃ (x2522:Bool),j2523 x2522=some r∧Fr 126 a [(0,VP b1 0),(3,VP b9 0),(5,VI a1.f0),(6,.bool x2522)]∧Own G (Blk b1 [.slice A2 a0_0.length c3] 46::Blk b9 [VI a1.f0,.string a1.f1,VI a1.f2,.slice A5 a1.f3.length c6] 24::Row Kd.string 9 (.slice A2 a0_0.length c3) a0_0::L) W) ?_ ?_
 ·
  rintro a W ⟨x2522,h,hF,hO⟩
  rw [hj2523] at h
  refine TQ.use ?_ hF hO
  clear hF hO
  refine TQ.then_ ?_
  refine TC.cond_b rfl h (fun hc2929 h=>?_) (fun hc2929 h=>?_)
  ·
   refine TC.region ?_
   refine TV rfl rfl rfl (Val.move rfl) ?_
   refine TV rfl rfl rfl (Val.fieldAddrB Try.underlying24 rfl fsz9 rfl rfl rfl) ?_
   refine TV rfl rfl rfl (Val.loadB 1 agg9 rfl rfl rfl) ?_
   refine TL.cons (TL.buildSlice (xs:=[.tmp 11]) (vs:=[.string a1.f1]) (cs:=[.string a1.f1]) rfl rfl Try.underlying44 zs9 rfl rfl rfl rfl rfl rfl rfl rfl (fun b2930=>?_))
   refine TK.new (Els.nil Kd.string) ?_
   refine TK.new (El.of (k:=Kd.string) (xv:=a1.f1) (cs:=[.string a1.f1]) (fun W B=>rfl)) ?_
   refine TK.sel (Ls:=[Els Kd.string [] [],El Kd.string a1.f1 [.string a1.f1],Blk b2930 [.string a1.f1] 9,Blk b1 [.slice A2 a0_0.length c3] 46,Blk b9 [VI a1.f0,.string a1.f1,VI a1.f2,.slice A5 a1.f3.length c6] 24,Row Kd.string 9 (.slice A2 a0_0.length c3) a0_0]) [1,0,2,3,4,5] 6 rfl rfl rfl ?_
   refine TK.two (ch:=Els Kd.string [a1.f1] [.string a1.f1]) (Els.snoc Kd.string) ?_
   refine TK.sel (Ls:=[Blk b2930 [.string a1.f1] 9,Els Kd.string [a1.f1] [.string a1.f1],Blk b1 [.slice A2 a0_0.length c3] 46,Blk b9 [VI a1.f0,.string a1.f1,VI a1.f2,.slice A5 a1.f3.length c6] 24,Row Kd.string 9 (.slice A2 a0_0.length c3) a0_0]) [1,0,2,3,4] 5 rfl rfl rfl ?_
   refine TK.two (ch:=Row Kd.string 9 (.slice (some ⟨b2930,0,none⟩) 1 1) ([a1.f1]:List ByteArray)) (Row.lit Kd.string rfl rfl) ?_
   refine TK.share (fun G2932 e2933 hs2934 hb2935=>?_)
   have rd2936:Rd G2932 Kd.string (some ⟨b2930,0,none⟩) ([a1.f1]:List ByteArray):=Rd.row hs2934
   have le2937:([a1.f1]:List ByteArray).length ≤ 1:=Row.le hs2934
   refine TK.sel (Ls:=[Blk b1 [.slice A2 a0_0.length c3] 46,Row Kd.string 9 (.slice A2 a0_0.length c3) a0_0,Blk b9 [VI a1.f0,.string a1.f1,VI a1.f2,.slice A5 a1.f3.length c6] 24]) [0,2,1] 3 rfl rfl rfl ?_
   obtain ⟨y2938,hy2939,h⟩:=bind_no h
   refine TL.cons (TL.callV (Lin:=[Blk b1 [.slice A2 a0_0.length c3] 46,Row Kd.string 9 (.slice A2 a0_0.length c3) a0_0]) (args:=[VP b1 0,.slice (some ⟨b2930,0,none⟩) 1 1]) rfl rfl rfl hbd32 rfl rfl (parse_writer_put.calls (a0_0:=a0_0) (a1:=([a1.f1]:List ByteArray)) rd2936 le2937 hy2939) rfl ?_)
   rintro _ _ _ _ ⟨rfl,A2940,c2941,rfl,rfl⟩
   refine TL.nil ?_
   refine TQ.inB ?_
   refine TQ.back hb2935 ?_
   obtain rfl:=Option.some.inj h
   exact TQ.fin (.inr rfl) rfl Try.results37 .nil rfl (FRel.mk (Ls:=[Blk b1 [.slice A2940 y2938.length c2941] 46,Row Kd.string 9 (.slice A2940 y2938.length c2941) y2938]) [1,2] 4 (Gd.le.refl _) rfl rfl rfl ⟨rfl,A2940,c2941,rfl,rfl⟩)
  ·
   refine TC.seq ?_
   refine TC.region ?_
   refine TV rfl rfl rfl (Val.cmp rfl rfl run_eql) ?_
   refine TV rfl rfl rfl (Val.assign rfl) ?_
   refine TL.nil ?_
   refine TQ.then_ ?_
   refine TC.cond_p rfl h (fun hc3334 h=>?_) (fun hc3334 h=>?_)
   ·
    refine TC.seq ?_
    refine TC.regionAnyS (L0:=(Blk b9 [VI a1.f0,.string a1.f1,VI a1.f2,.slice A5 a1.f3.length c6] 24::L)) [] [0,1,2,3,4,5,6] mixed (by kernel_rfl) ?_
    refine TA.take 0 rfl (by kernel_rfl) rfl (PQ.then_ (PQ.inB PQ.body)) rfl (Val.move rfl) (fun W hO=>hO.selT (Ls:=[Blk b9 [VI a1.f0,.string a1.f1,VI a1.f2,.slice A5 a1.f3.length c6] 24]) [1] 3 rfl rfl rfl) ?_
    refine TA.take 1 rfl (by kernel_rfl) rfl (PQ.then_ (PQ.inB PQ.body)) rfl (Val.fieldAddrB Try.underlying24 rfl fsz22 rfl rfl rfl) (fun W hO=>hO.selT (Ls:=[Blk b9 [VI a1.f0,.string a1.f1,VI a1.f2,.slice A5 a1.f3.length c6] 24]) [1] 3 rfl rfl rfl) ?_
    refine TA.take 2 rfl (by kernel_rfl) rfl (PQ.then_ (PQ.inB PQ.body)) rfl (Val.loadB 0 agg22 rfl rfl rfl) (fun W hO=>hO.selT (Ls:=[Blk b9 [VI a1.f0,.string a1.f1,VI a1.f2,.slice A5 a1.f3.length c6] 24]) [1] 3 rfl rfl rfl) ?_
    obtain ⟨y3361,hx3362,h⟩:=bind_no h
    obtain ⟨ad3363,cs3369,hA3364,hi3365,hj3366,hcl3367,hK3368⟩:=Rd.at hr7 hx3362
    obtain ⟨A3370,c3371,rfl,hr3372,hl3373⟩:=k24_openR hK3368
    refine TA.take 3 rfl (by kernel_rfl) rfl (PQ.then_ (PQ.inB PQ.body)) rfl (Val.indexAddr Try.underlying22 fsz24 rfl hA3364 rfl hi3365 hj3366) (fun W hO=>hO.selT (Ls:=[Blk b9 [VI a1.f0,.string a1.f1,VI a1.f2,.slice A5 a1.f3.length c6] 24]) [1] 3 rfl rfl rfl) ?_
    refine TA.take 4 rfl (by kernel_rfl) rfl (PQ.then_ (PQ.inB PQ.body)) rfl (Val.loadsS (cs:=[VI y3361.f0,.string y3361.f1,VI y3361.f2,.slice A3370 y3361.f3.length c3371]) agg24 fsz24 rfl rfl (Cl.sub (off:=0) (n:=4) hcl3367 rfl)) (fun W hO=>hO.selT (Ls:=[Blk b9 [VI a1.f0,.string a1.f1,VI a1.f2,.slice A5 a1.f3.length c6] 24]) [1] 3 rfl rfl rfl) ?_
    refine TA.take 5 rfl (by kernel_rfl) rfl (PQ.then_ (PQ.inB PQ.body)) rfl (Val.fieldAddrB Try.underlying24 rfl fsz9 rfl rfl rfl) (fun W hO=>hO.selT (Ls:=[Blk b9 [VI a1.f0,.string a1.f1,VI a1.f2,.slice A5 a1.f3.length c6] 24]) [1] 3 rfl rfl rfl) ?_
    refine TA.take 6 rfl (by kernel_rfl) rfl (PQ.then_ (PQ.inB PQ.body)) rfl (Val.loadB 0 agg9 rfl rfl rfl) (fun W hO=>hO.selT (Ls:=[Blk b9 [VI a1.f0,.string a1.f1,VI a1.f2,.slice A5 a1.f3.length c6] 24]) [1] 3 rfl rfl rfl) ?_
    refine TA.eff 7 rfl (by kernel_rfl) rfl (TL.buildSlice (xs:=[.tmp 22]) (vs:=[.string a1.f1]) (cs:=[.string a1.f1]) rfl rfl Try.underlying44 zs9 rfl rfl rfl rfl rfl rfl rfl rfl (fun b3374=>?_))
    refine TA.next (fun W hO=>hO.selT (Ls:=[Blk b9 [VI a1.f0,.string a1.f1,VI a1.f2,.slice A5 a1.f3.length c6] 24]) [2] 4 rfl rfl rfl) ?_
    refine TK.new (Els.nil Kd.string) ?_
    refine TK.new (El.of (k:=Kd.string) (xv:=a1.f1) (cs:=[.string a1.f1]) (fun W B=>rfl)) ?_
    refine TK.sel (Ls:=[Els Kd.string [] [],El Kd.string a1.f1 [.string a1.f1],Blk b3374 [.string a1.f1] 9,Blk b1 [.slice A2 a0_0.length c3] 46,Blk b9 [VI a1.f0,.string a1.f1,VI a1.f2,.slice A5 a1.f3.length c6] 24,Row Kd.string 9 (.slice A2 a0_0.length c3) a0_0]) [1,0,2,3,4,5] 6 rfl rfl rfl ?_
    refine TK.two (ch:=Els Kd.string [a1.f1] [.string a1.f1]) (Els.snoc Kd.string) ?_
    refine TK.sel (Ls:=[Blk b3374 [.string a1.f1] 9,Els Kd.string [a1.f1] [.string a1.f1],Blk b1 [.slice A2 a0_0.length c3] 46,Blk b9 [VI a1.f0,.string a1.f1,VI a1.f2,.slice A5 a1.f3.length c6] 24,Row Kd.string 9 (.slice A2 a0_0.length c3) a0_0]) [1,0,2,3,4] 5 rfl rfl rfl ?_
    refine TK.two (ch:=Row Kd.string 9 (.slice (some ⟨b3374,0,none⟩) 1 1) ([a1.f1]:List ByteArray)) (Row.lit Kd.string rfl rfl) ?_
    refine TK.share (fun G3376 e3377 hs3378 hb3379=>?_)
    have rd3380:Rd G3376 Kd.string (some ⟨b3374,0,none⟩) ([a1.f1]:List ByteArray):=Rd.row hs3378
    have le3381:([a1.f1]:List ByteArray).length ≤ 1:=Row.le hs3378
    refine TK.sel (Ls:=[Blk b1 [.slice A2 a0_0.length c3] 46,Row Kd.string 9 (.slice A2 a0_0.length c3) a0_0,Blk b9 [VI a1.f0,.string a1.f1,VI a1.f2,.slice A5 a1.f3.length c6] 24]) [0,2,1] 3 rfl rfl rfl ?_
    obtain ⟨y3382,hy3383,h⟩:=bind_no h
    refine TA.eff 8 rfl (by kernel_rfl) rfl (TL.callV (Lin:=[Blk b1 [.slice A2 a0_0.length c3] 46,Row Kd.string 9 (.slice A2 a0_0.length c3) a0_0]) (args:=[VP b1 0,.string (⟨#[40]⟩:ByteArray),.agg #[VI y3361.f0,.string y3361.f1,VI y3361.f2,.slice A3370 y3361.f3.length c3371],.slice (some ⟨b3374,0,none⟩) 1 1]) rfl rfl rfl hbd34 rfl rfl (ih34 (a0_0:=a0_0) (a1:=(⟨#[40]⟩:ByteArray)) (a2:=y3361) (a3:=([a1.f1]:List ByteArray)) (hr3372.up e3377) hl3373 rd3380 le3381 hy3383) rfl ?_)
    rintro _ _ _ _ ⟨rfl,A3384,c3385,rfl,rfl⟩
    refine TA.next (fun W hO=>(hb3379 _ _ hO).selT (Ls:=[Blk b9 [VI a1.f0,.string a1.f1,VI a1.f2,.slice A5 a1.f3.length c6] 24]) [3] 4 rfl rfl rfl) ?_
    refine TA.done (by kernel_rfl) ?_
    refine TQ.then_ ?_
    refine TC.region ?_
    refine TV rfl rfl rfl (Val.move rfl) ?_
    refine TV rfl rfl rfl (Val.fieldAddrB Try.underlying24 rfl fsz22 rfl rfl rfl) ?_
    refine TV rfl rfl rfl (Val.loadB 2 agg22 rfl rfl rfl) ?_
    obtain ⟨y3387,hx3388,h⟩:=bind_no h
    obtain ⟨ad3389,cs3395,hA3390,hi3391,hj3392,hcl3393,hK3394⟩:=Rd.at (hr7.up e3377) hx3388
    obtain ⟨A3396,c3397,rfl,hr3398,hl3399⟩:=k24_openR hK3394
    refine TV rfl rfl rfl (Val.indexAddr Try.underlying22 fsz24 rfl hA3390 rfl hi3391 hj3392) ?_
    refine TV rfl rfl rfl (Val.loadsS (cs:=[VI y3387.f0,.string y3387.f1,VI y3387.f2,.slice A3396 y3387.f3.length c3397]) agg24 fsz24 rfl rfl (Cl.sub (off:=0) (n:=4) hcl3393 rfl)) ?_
    refine TL.cons (TL.buildSlice (xs:=[.const (.string (⟨#[41]⟩:ByteArray))]) (vs:=[.string (⟨#[41]⟩:ByteArray)]) (cs:=[.string (⟨#[41]⟩:ByteArray)]) rfl rfl Try.underlying44 zs9 rfl rfl rfl rfl rfl rfl rfl rfl (fun b3400=>?_))
    refine TK.new (Els.nil Kd.string) ?_
    refine TK.new (El.of (k:=Kd.string) (xv:=(⟨#[41]⟩:ByteArray)) (cs:=[.string (⟨#[41]⟩:ByteArray)]) (fun W B=>rfl)) ?_
    refine TK.sel (Ls:=[Els Kd.string [] [],El Kd.string (⟨#[41]⟩:ByteArray) [.string (⟨#[41]⟩:ByteArray)],Blk b3400 [.string (⟨#[41]⟩:ByteArray)] 9,Blk b1 [.slice A3384 y3382.length c3385] 46,Row Kd.string 9 (.slice A3384 y3382.length c3385) y3382,Blk b9 [VI a1.f0,.string a1.f1,VI a1.f2,.slice A5 a1.f3.length c6] 24]) [1,0,2,3,4,5] 6 rfl rfl rfl ?_
    refine TK.two (ch:=Els Kd.string [(⟨#[41]⟩:ByteArray)] [.string (⟨#[41]⟩:ByteArray)]) (Els.snoc Kd.string) ?_
    refine TK.sel (Ls:=[Blk b3400 [.string (⟨#[41]⟩:ByteArray)] 9,Els Kd.string [(⟨#[41]⟩:ByteArray)] [.string (⟨#[41]⟩:ByteArray)],Blk b1 [.slice A3384 y3382.length c3385] 46,Row Kd.string 9 (.slice A3384 y3382.length c3385) y3382,Blk b9 [VI a1.f0,.string a1.f1,VI a1.f2,.slice A5 a1.f3.length c6] 24]) [1,0,2,3,4] 5 rfl rfl rfl ?_
    refine TK.two (ch:=Row Kd.string 9 (.slice (some ⟨b3400,0,none⟩) 1 1) ([(⟨#[41]⟩:ByteArray)]:List ByteArray)) (Row.lit Kd.string rfl rfl) ?_
    refine TK.share (fun G3402 e3403 hs3404 hb3405=>?_)
    have rd3406:Rd G3402 Kd.string (some ⟨b3400,0,none⟩) ([(⟨#[41]⟩:ByteArray)]:List ByteArray):=Rd.row hs3404
    have le3407:([(⟨#[41]⟩:ByteArray)]:List ByteArray).length ≤ 1:=Row.le hs3404
    obtain ⟨y3408,hy3409,h⟩:=bind_no h
    refine TL.cons (TL.callV (Lin:=[Blk b1 [.slice A3384 y3382.length c3385] 46,Row Kd.string 9 (.slice A3384 y3382.length c3385) y3382]) (args:=[VP b1 0,.string (⟨#[]⟩:ByteArray),.agg #[VI y3387.f0,.string y3387.f1,VI y3387.f2,.slice A3396 y3387.f3.length c3397],.slice (some ⟨b3400,0,none⟩) 1 1]) rfl rfl rfl hbd34 rfl rfl (ih34 (a0_0:=y3382) (a1:=(⟨#[]⟩:ByteArray)) (a2:=y3387) (a3:=([(⟨#[41]⟩:ByteArray)]:List ByteArray)) (hr3398.up e3403) hl3399 rd3406 le3407 hy3409) rfl ?_)
    rintro _ _ _ _ ⟨rfl,A3410,c3411,rfl,rfl⟩
    refine TL.nil ?_
    refine TQ.inB ?_
    refine TQ.back hb3405 ?_
    refine TQ.back hb3379 ?_
    obtain rfl:=Option.some.inj h
    exact TQ.fin (.inr rfl) rfl Try.results37 .nil rfl (FRel.mk (Ls:=[Blk b1 [.slice A3410 y3408.length c3411] 46,Row Kd.string 9 (.slice A3410 y3408.length c3411) y3408]) [2,3] 5 (Gd.le.refl _) rfl rfl rfl ⟨rfl,A3410,c3411,rfl,rfl⟩)
   ·
    refine TC.seq ?_
    refine TC.region ?_
    refine TV rfl rfl rfl (Val.cmp rfl rfl run_eql) ?_
    refine TV rfl rfl rfl (Val.assign rfl) ?_
    refine TL.nil ?_
    refine TQ.then_ ?_
    refine TC.cond_p rfl h (fun hc3725 h=>?_) (fun hc3725 h=>?_)
    ·
     refine TC.seq ?_
     refine TC.region ?_
     refine TV rfl rfl rfl (Val.move rfl) ?_
     refine TL.cons (TL.buildSlice (xs:=[.const (.string (⟨#[40]⟩:ByteArray))]) (vs:=[.string (⟨#[40]⟩:ByteArray)]) (cs:=[.string (⟨#[40]⟩:ByteArray)]) rfl rfl Try.underlying44 zs9 rfl rfl rfl rfl rfl rfl rfl rfl (fun b3726=>?_))
     refine TK.new (Els.nil Kd.string) ?_
     refine TK.new (El.of (k:=Kd.string) (xv:=(⟨#[40]⟩:ByteArray)) (cs:=[.string (⟨#[40]⟩:ByteArray)]) (fun W B=>rfl)) ?_
     refine TK.sel (Ls:=[Els Kd.string [] [],El Kd.string (⟨#[40]⟩:ByteArray) [.string (⟨#[40]⟩:ByteArray)],Blk b3726 [.string (⟨#[40]⟩:ByteArray)] 9,Blk b1 [.slice A2 a0_0.length c3] 46,Blk b9 [VI a1.f0,.string a1.f1,VI a1.f2,.slice A5 a1.f3.length c6] 24,Row Kd.string 9 (.slice A2 a0_0.length c3) a0_0]) [1,0,2,3,4,5] 6 rfl rfl rfl ?_
     refine TK.two (ch:=Els Kd.string [(⟨#[40]⟩:ByteArray)] [.string (⟨#[40]⟩:ByteArray)]) (Els.snoc Kd.string) ?_
     refine TK.sel (Ls:=[Blk b3726 [.string (⟨#[40]⟩:ByteArray)] 9,Els Kd.string [(⟨#[40]⟩:ByteArray)] [.string (⟨#[40]⟩:ByteArray)],Blk b1 [.slice A2 a0_0.length c3] 46,Blk b9 [VI a1.f0,.string a1.f1,VI a1.f2,.slice A5 a1.f3.length c6] 24,Row Kd.string 9 (.slice A2 a0_0.length c3) a0_0]) [1,0,2,3,4] 5 rfl rfl rfl ?_
     refine TK.two (ch:=Row Kd.string 9 (.slice (some ⟨b3726,0,none⟩) 1 1) ([(⟨#[40]⟩:ByteArray)]:List ByteArray)) (Row.lit Kd.string rfl rfl) ?_
     refine TK.share (fun G3728 e3729 hs3730 hb3731=>?_)
     have rd3732:Rd G3728 Kd.string (some ⟨b3726,0,none⟩) ([(⟨#[40]⟩:ByteArray)]:List ByteArray):=Rd.row hs3730
     have le3733:([(⟨#[40]⟩:ByteArray)]:List ByteArray).length ≤ 1:=Row.le hs3730
     refine TK.sel (Ls:=[Blk b1 [.slice A2 a0_0.length c3] 46,Row Kd.string 9 (.slice A2 a0_0.length c3) a0_0,Blk b9 [VI a1.f0,.string a1.f1,VI a1.f2,.slice A5 a1.f3.length c6] 24]) [0,2,1] 3 rfl rfl rfl ?_
     obtain ⟨y3734,hy3735,h⟩:=bind_no h
     refine TL.cons (TL.callV (Lin:=[Blk b1 [.slice A2 a0_0.length c3] 46,Row Kd.string 9 (.slice A2 a0_0.length c3) a0_0]) (args:=[VP b1 0,.slice (some ⟨b3726,0,none⟩) 1 1]) rfl rfl rfl hbd32 rfl rfl (parse_writer_put.calls (a0_0:=a0_0) (a1:=([(⟨#[40]⟩:ByteArray)]:List ByteArray)) rd3732 le3733 hy3735) rfl ?_)
     rintro _ _ _ _ ⟨rfl,A3736,c3737,rfl,rfl⟩
     refine TL.nil ?_
     refine TQ.then_ ?_
     refine TC.region ?_
     refine TV rfl rfl rfl (Val.move rfl) ?_
     refine TV rfl rfl rfl (Val.fieldAddrB Try.underlying24 rfl fsz22 rfl rfl rfl) ?_
     refine TV rfl rfl rfl (Val.loadB 2 agg22 rfl rfl rfl) ?_
     obtain ⟨y3739,hx3740,h⟩:=bind_no h
     obtain ⟨ad3741,cs3747,hA3742,hi3743,hj3744,hcl3745,hK3746⟩:=Rd.at (hr7.up e3729) hx3740
     obtain ⟨A3748,c3749,rfl,hr3750,hl3751⟩:=k24_openR hK3746
     refine TV rfl rfl rfl (Val.indexAddr Try.underlying22 fsz24 rfl hA3742 rfl hi3743 hj3744) ?_
     refine TV rfl rfl rfl (Val.loadsS (cs:=[VI y3739.f0,.string y3739.f1,VI y3739.f2,.slice A3748 y3739.f3.length c3749]) agg24 fsz24 rfl rfl (Cl.sub (off:=0) (n:=4) hcl3745 rfl)) ?_
     refine TL.cons (TL.buildSlice (xs:=[.const (.string (⟨#[41]⟩:ByteArray))]) (vs:=[.string (⟨#[41]⟩:ByteArray)]) (cs:=[.string (⟨#[41]⟩:ByteArray)]) rfl rfl Try.underlying44 zs9 rfl rfl rfl rfl rfl rfl rfl rfl (fun b3752=>?_))
     refine TK.new (Els.nil Kd.string) ?_
     refine TK.new (El.of (k:=Kd.string) (xv:=(⟨#[41]⟩:ByteArray)) (cs:=[.string (⟨#[41]⟩:ByteArray)]) (fun W B=>rfl)) ?_
     refine TK.sel (Ls:=[Els Kd.string [] [],El Kd.string (⟨#[41]⟩:ByteArray) [.string (⟨#[41]⟩:ByteArray)],Blk b3752 [.string (⟨#[41]⟩:ByteArray)] 9,Blk b1 [.slice A3736 y3734.length c3737] 46,Row Kd.string 9 (.slice A3736 y3734.length c3737) y3734,Blk b9 [VI a1.f0,.string a1.f1,VI a1.f2,.slice A5 a1.f3.length c6] 24]) [1,0,2,3,4,5] 6 rfl rfl rfl ?_
     refine TK.two (ch:=Els Kd.string [(⟨#[41]⟩:ByteArray)] [.string (⟨#[41]⟩:ByteArray)]) (Els.snoc Kd.string) ?_
     refine TK.sel (Ls:=[Blk b3752 [.string (⟨#[41]⟩:ByteArray)] 9,Els Kd.string [(⟨#[41]⟩:ByteArray)] [.string (⟨#[41]⟩:ByteArray)],Blk b1 [.slice A3736 y3734.length c3737] 46,Row Kd.string 9 (.slice A3736 y3734.length c3737) y3734,Blk b9 [VI a1.f0,.string a1.f1,VI a1.f2,.slice A5 a1.f3.length c6] 24]) [1,0,2,3,4] 5 rfl rfl rfl ?_
     refine TK.two (ch:=Row Kd.string 9 (.slice (some ⟨b3752,0,none⟩) 1 1) ([(⟨#[41]⟩:ByteArray)]:List ByteArray)) (Row.lit Kd.string rfl rfl) ?_
     refine TK.share (fun G3754 e3755 hs3756 hb3757=>?_)
     have rd3758:Rd G3754 Kd.string (some ⟨b3752,0,none⟩) ([(⟨#[41]⟩:ByteArray)]:List ByteArray):=Rd.row hs3756
     have le3759:([(⟨#[41]⟩:ByteArray)]:List ByteArray).length ≤ 1:=Row.le hs3756
     obtain ⟨y3760,hy3761,h⟩:=bind_no h
     refine TL.cons (TL.callV (Lin:=[Blk b1 [.slice A3736 y3734.length c3737] 46,Row Kd.string 9 (.slice A3736 y3734.length c3737) y3734]) (args:=[VP b1 0,.string (⟨#[45]⟩:ByteArray),.agg #[VI y3739.f0,.string y3739.f1,VI y3739.f2,.slice A3748 y3739.f3.length c3749],.slice (some ⟨b3752,0,none⟩) 1 1]) rfl rfl rfl hbd34 rfl rfl (ih34 (a0_0:=y3734) (a1:=(⟨#[45]⟩:ByteArray)) (a2:=y3739) (a3:=([(⟨#[41]⟩:ByteArray)]:List ByteArray)) (hr3750.up e3755) hl3751 rd3758 le3759 hy3761) rfl ?_)
     rintro _ _ _ _ ⟨rfl,A3762,c3763,rfl,rfl⟩
     refine TL.nil ?_
     refine TQ.inB ?_
     refine TQ.back hb3757 ?_
     refine TQ.back hb3731 ?_
     obtain rfl:=Option.some.inj h
     exact TQ.fin (.inr rfl) rfl Try.results37 .nil rfl (FRel.mk (Ls:=[Blk b1 [.slice A3762 y3760.length c3763] 46,Row Kd.string 9 (.slice A3762 y3760.length c3763) y3760]) [2,3] 5 (Gd.le.refl _) rfl rfl rfl ⟨rfl,A3762,c3763,rfl,rfl⟩)
    ·
     refine TC.seq ?_
     refine TC.region ?_
     refine TV rfl rfl rfl (Val.cmp rfl rfl run_eql) ?_
     refine TV rfl rfl rfl (Val.assign rfl) ?_
     refine TL.nil ?_
     refine TQ.then_ ?_
     refine TC.cond_p rfl h (fun hc4037 h=>?_) (fun hc4037 h=>?_)
     ·
      refine TC.seq ?_
      refine TC.region ?_
      refine TV rfl rfl rfl (Val.move rfl) ?_
      refine TL.cons (TL.buildSlice (xs:=[.const (.string (⟨#[40]⟩:ByteArray))]) (vs:=[.string (⟨#[40]⟩:ByteArray)]) (cs:=[.string (⟨#[40]⟩:ByteArray)]) rfl rfl Try.underlying44 zs9 rfl rfl rfl rfl rfl rfl rfl rfl (fun b4038=>?_))
      refine TK.new (Els.nil Kd.string) ?_
      refine TK.new (El.of (k:=Kd.string) (xv:=(⟨#[40]⟩:ByteArray)) (cs:=[.string (⟨#[40]⟩:ByteArray)]) (fun W B=>rfl)) ?_
      refine TK.sel (Ls:=[Els Kd.string [] [],El Kd.string (⟨#[40]⟩:ByteArray) [.string (⟨#[40]⟩:ByteArray)],Blk b4038 [.string (⟨#[40]⟩:ByteArray)] 9,Blk b1 [.slice A2 a0_0.length c3] 46,Blk b9 [VI a1.f0,.string a1.f1,VI a1.f2,.slice A5 a1.f3.length c6] 24,Row Kd.string 9 (.slice A2 a0_0.length c3) a0_0]) [1,0,2,3,4,5] 6 rfl rfl rfl ?_
      refine TK.two (ch:=Els Kd.string [(⟨#[40]⟩:ByteArray)] [.string (⟨#[40]⟩:ByteArray)]) (Els.snoc Kd.string) ?_
      refine TK.sel (Ls:=[Blk b4038 [.string (⟨#[40]⟩:ByteArray)] 9,Els Kd.string [(⟨#[40]⟩:ByteArray)] [.string (⟨#[40]⟩:ByteArray)],Blk b1 [.slice A2 a0_0.length c3] 46,Blk b9 [VI a1.f0,.string a1.f1,VI a1.f2,.slice A5 a1.f3.length c6] 24,Row Kd.string 9 (.slice A2 a0_0.length c3) a0_0]) [1,0,2,3,4] 5 rfl rfl rfl ?_
      refine TK.two (ch:=Row Kd.string 9 (.slice (some ⟨b4038,0,none⟩) 1 1) ([(⟨#[40]⟩:ByteArray)]:List ByteArray)) (Row.lit Kd.string rfl rfl) ?_
      refine TK.share (fun G4040 e4041 hs4042 hb4043=>?_)
      have rd4044:Rd G4040 Kd.string (some ⟨b4038,0,none⟩) ([(⟨#[40]⟩:ByteArray)]:List ByteArray):=Rd.row hs4042
      have le4045:([(⟨#[40]⟩:ByteArray)]:List ByteArray).length ≤ 1:=Row.le hs4042
      refine TK.sel (Ls:=[Blk b1 [.slice A2 a0_0.length c3] 46,Row Kd.string 9 (.slice A2 a0_0.length c3) a0_0,Blk b9 [VI a1.f0,.string a1.f1,VI a1.f2,.slice A5 a1.f3.length c6] 24]) [0,2,1] 3 rfl rfl rfl ?_
      obtain ⟨y4046,hy4047,h⟩:=bind_no h
      refine TL.cons (TL.callV (Lin:=[Blk b1 [.slice A2 a0_0.length c3] 46,Row Kd.string 9 (.slice A2 a0_0.length c3) a0_0]) (args:=[VP b1 0,.slice (some ⟨b4038,0,none⟩) 1 1]) rfl rfl rfl hbd32 rfl rfl (parse_writer_put.calls (a0_0:=a0_0) (a1:=([(⟨#[40]⟩:ByteArray)]:List ByteArray)) rd4044 le4045 hy4047) rfl ?_)
      rintro _ _ _ _ ⟨rfl,A4048,c4049,rfl,rfl⟩
      refine TL.nil ?_
      refine TQ.then_ ?_
      refine TC.region ?_
      refine TV rfl rfl rfl (Val.move rfl) ?_
      refine TV rfl rfl rfl (Val.fieldAddrB Try.underlying24 rfl fsz22 rfl rfl rfl) ?_
      refine TV rfl rfl rfl (Val.loadB 2 agg22 rfl rfl rfl) ?_
      obtain ⟨y4051,hx4052,h⟩:=bind_no h
      obtain ⟨ad4053,cs4059,hA4054,hi4055,hj4056,hcl4057,hK4058⟩:=Rd.at (hr7.up e4041) hx4052
      obtain ⟨A4060,c4061,rfl,hr4062,hl4063⟩:=k24_openR hK4058
      refine TV rfl rfl rfl (Val.indexAddr Try.underlying22 fsz24 rfl hA4054 rfl hi4055 hj4056) ?_
      refine TV rfl rfl rfl (Val.loadsS (cs:=[VI y4051.f0,.string y4051.f1,VI y4051.f2,.slice A4060 y4051.f3.length c4061]) agg24 fsz24 rfl rfl (Cl.sub (off:=0) (n:=4) hcl4057 rfl)) ?_
      refine TL.cons (TL.buildSlice (xs:=[.const (.string (⟨#[41]⟩:ByteArray))]) (vs:=[.string (⟨#[41]⟩:ByteArray)]) (cs:=[.string (⟨#[41]⟩:ByteArray)]) rfl rfl Try.underlying44 zs9 rfl rfl rfl rfl rfl rfl rfl rfl (fun b4064=>?_))
      refine TK.new (Els.nil Kd.string) ?_
      refine TK.new (El.of (k:=Kd.string) (xv:=(⟨#[41]⟩:ByteArray)) (cs:=[.string (⟨#[41]⟩:ByteArray)]) (fun W B=>rfl)) ?_
      refine TK.sel (Ls:=[Els Kd.string [] [],El Kd.string (⟨#[41]⟩:ByteArray) [.string (⟨#[41]⟩:ByteArray)],Blk b4064 [.string (⟨#[41]⟩:ByteArray)] 9,Blk b1 [.slice A4048 y4046.length c4049] 46,Row Kd.string 9 (.slice A4048 y4046.length c4049) y4046,Blk b9 [VI a1.f0,.string a1.f1,VI a1.f2,.slice A5 a1.f3.length c6] 24]) [1,0,2,3,4,5] 6 rfl rfl rfl ?_
      refine TK.two (ch:=Els Kd.string [(⟨#[41]⟩:ByteArray)] [.string (⟨#[41]⟩:ByteArray)]) (Els.snoc Kd.string) ?_
      refine TK.sel (Ls:=[Blk b4064 [.string (⟨#[41]⟩:ByteArray)] 9,Els Kd.string [(⟨#[41]⟩:ByteArray)] [.string (⟨#[41]⟩:ByteArray)],Blk b1 [.slice A4048 y4046.length c4049] 46,Row Kd.string 9 (.slice A4048 y4046.length c4049) y4046,Blk b9 [VI a1.f0,.string a1.f1,VI a1.f2,.slice A5 a1.f3.length c6] 24]) [1,0,2,3,4] 5 rfl rfl rfl ?_
      refine TK.two (ch:=Row Kd.string 9 (.slice (some ⟨b4064,0,none⟩) 1 1) ([(⟨#[41]⟩:ByteArray)]:List ByteArray)) (Row.lit Kd.string rfl rfl) ?_
      refine TK.share (fun G4066 e4067 hs4068 hb4069=>?_)
      have rd4070:Rd G4066 Kd.string (some ⟨b4064,0,none⟩) ([(⟨#[41]⟩:ByteArray)]:List ByteArray):=Rd.row hs4068
      have le4071:([(⟨#[41]⟩:ByteArray)]:List ByteArray).length ≤ 1:=Row.le hs4068
      obtain ⟨y4072,hy4073,h⟩:=bind_no h
      refine TL.cons (TL.callV (Lin:=[Blk b1 [.slice A4048 y4046.length c4049] 46,Row Kd.string 9 (.slice A4048 y4046.length c4049) y4046]) (args:=[VP b1 0,.string (⟨#[42]⟩:ByteArray),.agg #[VI y4051.f0,.string y4051.f1,VI y4051.f2,.slice A4060 y4051.f3.length c4061],.slice (some ⟨b4064,0,none⟩) 1 1]) rfl rfl rfl hbd34 rfl rfl (ih34 (a0_0:=y4046) (a1:=(⟨#[42]⟩:ByteArray)) (a2:=y4051) (a3:=([(⟨#[41]⟩:ByteArray)]:List ByteArray)) (hr4062.up e4067) hl4063 rd4070 le4071 hy4073) rfl ?_)
      rintro _ _ _ _ ⟨rfl,A4074,c4075,rfl,rfl⟩
      refine TL.nil ?_
      refine TQ.inB ?_
      refine TQ.back hb4069 ?_
      refine TQ.back hb4043 ?_
      obtain rfl:=Option.some.inj h
      exact TQ.fin (.inr rfl) rfl Try.results37 .nil rfl (FRel.mk (Ls:=[Blk b1 [.slice A4074 y4072.length c4075] 46,Row Kd.string 9 (.slice A4074 y4072.length c4075) y4072]) [2,3] 5 (Gd.le.refl _) rfl rfl rfl ⟨rfl,A4074,c4075,rfl,rfl⟩)
     ·
      refine TC.seq ?_
      refine TC.region ?_
      refine TV rfl rfl rfl (Val.cmp rfl rfl run_eql) ?_
      refine TV rfl rfl rfl (Val.assign rfl) ?_
      refine TL.nil ?_
      refine TQ.then_ ?_
      refine TC.cond_p rfl h (fun hc4309 h=>?_) (fun hc4309 h=>?_)
      ·
       refine TC.seq ?_
       refine TC.region ?_
       refine TV rfl rfl rfl (Val.move rfl) ?_
       refine TL.cons (TL.buildSlice (xs:=[.const (.string (⟨#[40]⟩:ByteArray))]) (vs:=[.string (⟨#[40]⟩:ByteArray)]) (cs:=[.string (⟨#[40]⟩:ByteArray)]) rfl rfl Try.underlying44 zs9 rfl rfl rfl rfl rfl rfl rfl rfl (fun b4310=>?_))
       refine TK.new (Els.nil Kd.string) ?_
       refine TK.new (El.of (k:=Kd.string) (xv:=(⟨#[40]⟩:ByteArray)) (cs:=[.string (⟨#[40]⟩:ByteArray)]) (fun W B=>rfl)) ?_
       refine TK.sel (Ls:=[Els Kd.string [] [],El Kd.string (⟨#[40]⟩:ByteArray) [.string (⟨#[40]⟩:ByteArray)],Blk b4310 [.string (⟨#[40]⟩:ByteArray)] 9,Blk b1 [.slice A2 a0_0.length c3] 46,Blk b9 [VI a1.f0,.string a1.f1,VI a1.f2,.slice A5 a1.f3.length c6] 24,Row Kd.string 9 (.slice A2 a0_0.length c3) a0_0]) [1,0,2,3,4,5] 6 rfl rfl rfl ?_
       refine TK.two (ch:=Els Kd.string [(⟨#[40]⟩:ByteArray)] [.string (⟨#[40]⟩:ByteArray)]) (Els.snoc Kd.string) ?_
       refine TK.sel (Ls:=[Blk b4310 [.string (⟨#[40]⟩:ByteArray)] 9,Els Kd.string [(⟨#[40]⟩:ByteArray)] [.string (⟨#[40]⟩:ByteArray)],Blk b1 [.slice A2 a0_0.length c3] 46,Blk b9 [VI a1.f0,.string a1.f1,VI a1.f2,.slice A5 a1.f3.length c6] 24,Row Kd.string 9 (.slice A2 a0_0.length c3) a0_0]) [1,0,2,3,4] 5 rfl rfl rfl ?_
       refine TK.two (ch:=Row Kd.string 9 (.slice (some ⟨b4310,0,none⟩) 1 1) ([(⟨#[40]⟩:ByteArray)]:List ByteArray)) (Row.lit Kd.string rfl rfl) ?_
       refine TK.share (fun G4312 e4313 hs4314 hb4315=>?_)
       have rd4316:Rd G4312 Kd.string (some ⟨b4310,0,none⟩) ([(⟨#[40]⟩:ByteArray)]:List ByteArray):=Rd.row hs4314
       have le4317:([(⟨#[40]⟩:ByteArray)]:List ByteArray).length ≤ 1:=Row.le hs4314
       refine TK.sel (Ls:=[Blk b1 [.slice A2 a0_0.length c3] 46,Row Kd.string 9 (.slice A2 a0_0.length c3) a0_0,Blk b9 [VI a1.f0,.string a1.f1,VI a1.f2,.slice A5 a1.f3.length c6] 24]) [0,2,1] 3 rfl rfl rfl ?_
       obtain ⟨y4318,hy4319,h⟩:=bind_no h
       refine TL.cons (TL.callV (Lin:=[Blk b1 [.slice A2 a0_0.length c3] 46,Row Kd.string 9 (.slice A2 a0_0.length c3) a0_0]) (args:=[VP b1 0,.slice (some ⟨b4310,0,none⟩) 1 1]) rfl rfl rfl hbd32 rfl rfl (parse_writer_put.calls (a0_0:=a0_0) (a1:=([(⟨#[40]⟩:ByteArray)]:List ByteArray)) rd4316 le4317 hy4319) rfl ?_)
       rintro _ _ _ _ ⟨rfl,A4320,c4321,rfl,rfl⟩
       refine TL.nil ?_
       refine TQ.then_ ?_
       refine TC.region ?_
       refine TV rfl rfl rfl (Val.move rfl) ?_
       refine TV rfl rfl rfl (Val.fieldAddrB Try.underlying24 rfl fsz22 rfl rfl rfl) ?_
       refine TV rfl rfl rfl (Val.loadB 2 agg22 rfl rfl rfl) ?_
       obtain ⟨y4323,hx4324,h⟩:=bind_no h
       obtain ⟨ad4325,cs4331,hA4326,hi4327,hj4328,hcl4329,hK4330⟩:=Rd.at (hr7.up e4313) hx4324
       obtain ⟨A4332,c4333,rfl,hr4334,hl4335⟩:=k24_openR hK4330
       refine TV rfl rfl rfl (Val.indexAddr Try.underlying22 fsz24 rfl hA4326 rfl hi4327 hj4328) ?_
       refine TV rfl rfl rfl (Val.loadsS (cs:=[VI y4323.f0,.string y4323.f1,VI y4323.f2,.slice A4332 y4323.f3.length c4333]) agg24 fsz24 rfl rfl (Cl.sub (off:=0) (n:=4) hcl4329 rfl)) ?_
       refine TL.cons (TL.buildSlice (xs:=[.const (.string (⟨#[41]⟩:ByteArray))]) (vs:=[.string (⟨#[41]⟩:ByteArray)]) (cs:=[.string (⟨#[41]⟩:ByteArray)]) rfl rfl Try.underlying44 zs9 rfl rfl rfl rfl rfl rfl rfl rfl (fun b4336=>?_))
       refine TK.new (Els.nil Kd.string) ?_
       refine TK.new (El.of (k:=Kd.string) (xv:=(⟨#[41]⟩:ByteArray)) (cs:=[.string (⟨#[41]⟩:ByteArray)]) (fun W B=>rfl)) ?_
       refine TK.sel (Ls:=[Els Kd.string [] [],El Kd.string (⟨#[41]⟩:ByteArray) [.string (⟨#[41]⟩:ByteArray)],Blk b4336 [.string (⟨#[41]⟩:ByteArray)] 9,Blk b1 [.slice A4320 y4318.length c4321] 46,Row Kd.string 9 (.slice A4320 y4318.length c4321) y4318,Blk b9 [VI a1.f0,.string a1.f1,VI a1.f2,.slice A5 a1.f3.length c6] 24]) [1,0,2,3,4,5] 6 rfl rfl rfl ?_
       refine TK.two (ch:=Els Kd.string [(⟨#[41]⟩:ByteArray)] [.string (⟨#[41]⟩:ByteArray)]) (Els.snoc Kd.string) ?_
       refine TK.sel (Ls:=[Blk b4336 [.string (⟨#[41]⟩:ByteArray)] 9,Els Kd.string [(⟨#[41]⟩:ByteArray)] [.string (⟨#[41]⟩:ByteArray)],Blk b1 [.slice A4320 y4318.length c4321] 46,Row Kd.string 9 (.slice A4320 y4318.length c4321) y4318,Blk b9 [VI a1.f0,.string a1.f1,VI a1.f2,.slice A5 a1.f3.length c6] 24]) [1,0,2,3,4] 5 rfl rfl rfl ?_
       refine TK.two (ch:=Row Kd.string 9 (.slice (some ⟨b4336,0,none⟩) 1 1) ([(⟨#[41]⟩:ByteArray)]:List ByteArray)) (Row.lit Kd.string rfl rfl) ?_
       refine TK.share (fun G4338 e4339 hs4340 hb4341=>?_)
       have rd4342:Rd G4338 Kd.string (some ⟨b4336,0,none⟩) ([(⟨#[41]⟩:ByteArray)]:List ByteArray):=Rd.row hs4340
       have le4343:([(⟨#[41]⟩:ByteArray)]:List ByteArray).length ≤ 1:=Row.le hs4340
       obtain ⟨y4344,hy4345,h⟩:=bind_no h
       refine TL.cons (TL.callV (Lin:=[Blk b1 [.slice A4320 y4318.length c4321] 46,Row Kd.string 9 (.slice A4320 y4318.length c4321) y4318]) (args:=[VP b1 0,.string (⟨#[38]⟩:ByteArray),.agg #[VI y4323.f0,.string y4323.f1,VI y4323.f2,.slice A4332 y4323.f3.length c4333],.slice (some ⟨b4336,0,none⟩) 1 1]) rfl rfl rfl hbd34 rfl rfl (ih34 (a0_0:=y4318) (a1:=(⟨#[38]⟩:ByteArray)) (a2:=y4323) (a3:=([(⟨#[41]⟩:ByteArray)]:List ByteArray)) (hr4334.up e4339) hl4335 rd4342 le4343 hy4345) rfl ?_)
       rintro _ _ _ _ ⟨rfl,A4346,c4347,rfl,rfl⟩
       refine TL.nil ?_
       refine TQ.inB ?_
       refine TQ.back hb4341 ?_
       refine TQ.back hb4315 ?_
       obtain rfl:=Option.some.inj h
       exact TQ.fin (.inr rfl) rfl Try.results37 .nil rfl (FRel.mk (Ls:=[Blk b1 [.slice A4346 y4344.length c4347] 46,Row Kd.string 9 (.slice A4346 y4344.length c4347) y4344]) [2,3] 5 (Gd.le.refl _) rfl rfl rfl ⟨rfl,A4346,c4347,rfl,rfl⟩)
      ·
       refine TC.seq ?_
       refine TC.region ?_
       refine TV rfl rfl rfl (Val.cmp rfl rfl run_eql) ?_
       refine TV rfl rfl rfl (Val.assign rfl) ?_
       refine TL.nil ?_
       refine TQ.then_ ?_
       refine TC.cond_p rfl h (fun hc4541 h=>?_) (fun hc4541 h=>?_)
       ·
        refine TC.seq ?_
        refine TC.region ?_
        refine TV rfl rfl rfl (Val.move rfl) ?_
        refine TV rfl rfl rfl (Val.fieldAddrB Try.underlying24 rfl fsz22 rfl rfl rfl) ?_
        refine TV rfl rfl rfl (Val.loadB 1 agg22 rfl rfl rfl) ?_
        obtain ⟨y4542,hx4543,h⟩:=bind_no h
        obtain ⟨ad4544,cs4550,hA4545,hi4546,hj4547,hcl4548,hK4549⟩:=Rd.at hr7 hx4543
        obtain ⟨A4551,c4552,rfl,hr4553,hl4554⟩:=k24_openR hK4549
        refine TV rfl rfl rfl (Val.indexAddr Try.underlying22 fsz24 rfl hA4545 rfl hi4546 hj4547) ?_
        refine TV rfl rfl rfl (Val.loadsS (cs:=[VI y4542.f0,.string y4542.f1,VI y4542.f2,.slice A4551 y4542.f3.length c4552]) agg24 fsz24 rfl rfl (Cl.sub (off:=0) (n:=4) hcl4548 rfl)) ?_
        refine TL.cons (TL.buildSlice (xs:=[.const (.string (⟨#[91]⟩:ByteArray))]) (vs:=[.string (⟨#[91]⟩:ByteArray)]) (cs:=[.string (⟨#[91]⟩:ByteArray)]) rfl rfl Try.underlying44 zs9 rfl rfl rfl rfl rfl rfl rfl rfl (fun b4555=>?_))
        refine TK.new (Els.nil Kd.string) ?_
        refine TK.new (El.of (k:=Kd.string) (xv:=(⟨#[91]⟩:ByteArray)) (cs:=[.string (⟨#[91]⟩:ByteArray)]) (fun W B=>rfl)) ?_
        refine TK.sel (Ls:=[Els Kd.string [] [],El Kd.string (⟨#[91]⟩:ByteArray) [.string (⟨#[91]⟩:ByteArray)],Blk b4555 [.string (⟨#[91]⟩:ByteArray)] 9,Blk b1 [.slice A2 a0_0.length c3] 46,Blk b9 [VI a1.f0,.string a1.f1,VI a1.f2,.slice A5 a1.f3.length c6] 24,Row Kd.string 9 (.slice A2 a0_0.length c3) a0_0]) [1,0,2,3,4,5] 6 rfl rfl rfl ?_
        refine TK.two (ch:=Els Kd.string [(⟨#[91]⟩:ByteArray)] [.string (⟨#[91]⟩:ByteArray)]) (Els.snoc Kd.string) ?_
        refine TK.sel (Ls:=[Blk b4555 [.string (⟨#[91]⟩:ByteArray)] 9,Els Kd.string [(⟨#[91]⟩:ByteArray)] [.string (⟨#[91]⟩:ByteArray)],Blk b1 [.slice A2 a0_0.length c3] 46,Blk b9 [VI a1.f0,.string a1.f1,VI a1.f2,.slice A5 a1.f3.length c6] 24,Row Kd.string 9 (.slice A2 a0_0.length c3) a0_0]) [1,0,2,3,4] 5 rfl rfl rfl ?_
        refine TK.two (ch:=Row Kd.string 9 (.slice (some ⟨b4555,0,none⟩) 1 1) ([(⟨#[91]⟩:ByteArray)]:List ByteArray)) (Row.lit Kd.string rfl rfl) ?_
        refine TK.share (fun G4557 e4558 hs4559 hb4560=>?_)
        have rd4561:Rd G4557 Kd.string (some ⟨b4555,0,none⟩) ([(⟨#[91]⟩:ByteArray)]:List ByteArray):=Rd.row hs4559
        have le4562:([(⟨#[91]⟩:ByteArray)]:List ByteArray).length ≤ 1:=Row.le hs4559
        refine TK.sel (Ls:=[Blk b1 [.slice A2 a0_0.length c3] 46,Row Kd.string 9 (.slice A2 a0_0.length c3) a0_0,Blk b9 [VI a1.f0,.string a1.f1,VI a1.f2,.slice A5 a1.f3.length c6] 24]) [0,2,1] 3 rfl rfl rfl ?_
        obtain ⟨y4563,hy4564,h⟩:=bind_no h
        refine TL.cons (TL.callV (Lin:=[Blk b1 [.slice A2 a0_0.length c3] 46,Row Kd.string 9 (.slice A2 a0_0.length c3) a0_0]) (args:=[VP b1 0,.string (⟨#[]⟩:ByteArray),.agg #[VI y4542.f0,.string y4542.f1,VI y4542.f2,.slice A4551 y4542.f3.length c4552],.slice (some ⟨b4555,0,none⟩) 1 1]) rfl rfl rfl hbd34 rfl rfl (ih34 (a0_0:=a0_0) (a1:=(⟨#[]⟩:ByteArray)) (a2:=y4542) (a3:=([(⟨#[91]⟩:ByteArray)]:List ByteArray)) (hr4553.up e4558) hl4554 rd4561 le4562 hy4564) rfl ?_)
        rintro _ _ _ _ ⟨rfl,A4565,c4566,rfl,rfl⟩
        refine TL.nil ?_
        refine TQ.then_ ?_
        refine TC.region ?_
        refine TV rfl rfl rfl (Val.move rfl) ?_
        refine TV rfl rfl rfl (Val.fieldAddrB Try.underlying24 rfl fsz22 rfl rfl rfl) ?_
        refine TV rfl rfl rfl (Val.loadB 2 agg22 rfl rfl rfl) ?_
        obtain ⟨y4568,hx4569,h⟩:=bind_no h
        obtain ⟨ad4570,cs4576,hA4571,hi4572,hj4573,hcl4574,hK4575⟩:=Rd.at (hr7.up e4558) hx4569
        obtain ⟨A4577,c4578,rfl,hr4579,hl4580⟩:=k24_openR hK4575
        refine TV rfl rfl rfl (Val.indexAddr Try.underlying22 fsz24 rfl hA4571 rfl hi4572 hj4573) ?_
        refine TV rfl rfl rfl (Val.loadsS (cs:=[VI y4568.f0,.string y4568.f1,VI y4568.f2,.slice A4577 y4568.f3.length c4578]) agg24 fsz24 rfl rfl (Cl.sub (off:=0) (n:=4) hcl4574 rfl)) ?_
        refine TL.cons (TL.buildSlice (xs:=[.const (.string (⟨#[93]⟩:ByteArray))]) (vs:=[.string (⟨#[93]⟩:ByteArray)]) (cs:=[.string (⟨#[93]⟩:ByteArray)]) rfl rfl Try.underlying44 zs9 rfl rfl rfl rfl rfl rfl rfl rfl (fun b4581=>?_))
        refine TK.new (Els.nil Kd.string) ?_
        refine TK.new (El.of (k:=Kd.string) (xv:=(⟨#[93]⟩:ByteArray)) (cs:=[.string (⟨#[93]⟩:ByteArray)]) (fun W B=>rfl)) ?_
        refine TK.sel (Ls:=[Els Kd.string [] [],El Kd.string (⟨#[93]⟩:ByteArray) [.string (⟨#[93]⟩:ByteArray)],Blk b4581 [.string (⟨#[93]⟩:ByteArray)] 9,Blk b1 [.slice A4565 y4563.length c4566] 46,Row Kd.string 9 (.slice A4565 y4563.length c4566) y4563,Blk b9 [VI a1.f0,.string a1.f1,VI a1.f2,.slice A5 a1.f3.length c6] 24]) [1,0,2,3,4,5] 6 rfl rfl rfl ?_
        refine TK.two (ch:=Els Kd.string [(⟨#[93]⟩:ByteArray)] [.string (⟨#[93]⟩:ByteArray)]) (Els.snoc Kd.string) ?_
        refine TK.sel (Ls:=[Blk b4581 [.string (⟨#[93]⟩:ByteArray)] 9,Els Kd.string [(⟨#[93]⟩:ByteArray)] [.string (⟨#[93]⟩:ByteArray)],Blk b1 [.slice A4565 y4563.length c4566] 46,Row Kd.string 9 (.slice A4565 y4563.length c4566) y4563,Blk b9 [VI a1.f0,.string a1.f1,VI a1.f2,.slice A5 a1.f3.length c6] 24]) [1,0,2,3,4] 5 rfl rfl rfl ?_
        refine TK.two (ch:=Row Kd.string 9 (.slice (some ⟨b4581,0,none⟩) 1 1) ([(⟨#[93]⟩:ByteArray)]:List ByteArray)) (Row.lit Kd.string rfl rfl) ?_
        refine TK.share (fun G4583 e4584 hs4585 hb4586=>?_)
        have rd4587:Rd G4583 Kd.string (some ⟨b4581,0,none⟩) ([(⟨#[93]⟩:ByteArray)]:List ByteArray):=Rd.row hs4585
        have le4588:([(⟨#[93]⟩:ByteArray)]:List ByteArray).length ≤ 1:=Row.le hs4585
        obtain ⟨y4589,hy4590,h⟩:=bind_no h
        refine TL.cons (TL.callV (Lin:=[Blk b1 [.slice A4565 y4563.length c4566] 46,Row Kd.string 9 (.slice A4565 y4563.length c4566) y4563]) (args:=[VP b1 0,.string (⟨#[]⟩:ByteArray),.agg #[VI y4568.f0,.string y4568.f1,VI y4568.f2,.slice A4577 y4568.f3.length c4578],.slice (some ⟨b4581,0,none⟩) 1 1]) rfl rfl rfl hbd34 rfl rfl (ih34 (a0_0:=y4563) (a1:=(⟨#[]⟩:ByteArray)) (a2:=y4568) (a3:=([(⟨#[93]⟩:ByteArray)]:List ByteArray)) (hr4579.up e4584) hl4580 rd4587 le4588 hy4590) rfl ?_)
        rintro _ _ _ _ ⟨rfl,A4591,c4592,rfl,rfl⟩
        refine TL.nil ?_
        refine TQ.inB ?_
        refine TQ.back hb4586 ?_
        refine TQ.back hb4560 ?_
        obtain rfl:=Option.some.inj h
        exact TQ.fin (.inr rfl) rfl Try.results37 .nil rfl (FRel.mk (Ls:=[Blk b1 [.slice A4591 y4589.length c4592] 46,Row Kd.string 9 (.slice A4591 y4589.length c4592) y4589]) [2,3] 5 (Gd.le.refl _) rfl rfl rfl ⟨rfl,A4591,c4592,rfl,rfl⟩)
       ·
        refine TC.seq ?_
        refine TC.region ?_
        refine TV rfl rfl rfl (Val.cmp rfl rfl run_eql) ?_
        refine TV rfl rfl rfl (Val.assign rfl) ?_
        refine TL.nil ?_
        refine TQ.then_ ?_
        refine TC.cond_p rfl h (fun hc4733 h=>?_) (fun hc4733 h=>?_)
        ·
         refine TC.regionAnyS (L0:=(Blk b9 [VI a1.f0,.string a1.f1,VI a1.f2,.slice A5 a1.f3.length c6] 24::L)) [] [0,1,2,3,4,5,6] mixed (by kernel_rfl) ?_
         refine TA.take 0 rfl (by kernel_rfl) rfl (PQ.inB PQ.body) rfl (Val.move rfl) (fun W hO=>hO.selT (Ls:=[Blk b9 [VI a1.f0,.string a1.f1,VI a1.f2,.slice A5 a1.f3.length c6] 24]) [1] 3 rfl rfl rfl) ?_
         refine TA.take 1 rfl (by kernel_rfl) rfl (PQ.inB PQ.body) rfl (Val.fieldAddrB Try.underlying24 rfl fsz22 rfl rfl rfl) (fun W hO=>hO.selT (Ls:=[Blk b9 [VI a1.f0,.string a1.f1,VI a1.f2,.slice A5 a1.f3.length c6] 24]) [1] 3 rfl rfl rfl) ?_
         refine TA.take 2 rfl (by kernel_rfl) rfl (PQ.inB PQ.body) rfl (Val.loadB 0 agg22 rfl rfl rfl) (fun W hO=>hO.selT (Ls:=[Blk b9 [VI a1.f0,.string a1.f1,VI a1.f2,.slice A5 a1.f3.length c6] 24]) [1] 3 rfl rfl rfl) ?_
         obtain ⟨y4760,hx4761,h⟩:=bind_no h
         obtain ⟨ad4762,cs4768,hA4763,hi4764,hj4765,hcl4766,hK4767⟩:=Rd.at hr7 hx4761
         obtain ⟨A4769,c4770,rfl,hr4771,hl4772⟩:=k24_openR hK4767
         refine TA.take 3 rfl (by kernel_rfl) rfl (PQ.inB PQ.body) rfl (Val.indexAddr Try.underlying22 fsz24 rfl hA4763 rfl hi4764 hj4765) (fun W hO=>hO.selT (Ls:=[Blk b9 [VI a1.f0,.string a1.f1,VI a1.f2,.slice A5 a1.f3.length c6] 24]) [1] 3 rfl rfl rfl) ?_
         refine TA.take 4 rfl (by kernel_rfl) rfl (PQ.inB PQ.body) rfl (Val.loadsS (cs:=[VI y4760.f0,.string y4760.f1,VI y4760.f2,.slice A4769 y4760.f3.length c4770]) agg24 fsz24 rfl rfl (Cl.sub (off:=0) (n:=4) hcl4766 rfl)) (fun W hO=>hO.selT (Ls:=[Blk b9 [VI a1.f0,.string a1.f1,VI a1.f2,.slice A5 a1.f3.length c6] 24]) [1] 3 rfl rfl rfl) ?_
         refine TA.take 5 rfl (by kernel_rfl) rfl (PQ.inB PQ.body) rfl (Val.fieldAddrB Try.underlying24 rfl fsz9 rfl rfl rfl) (fun W hO=>hO.selT (Ls:=[Blk b9 [VI a1.f0,.string a1.f1,VI a1.f2,.slice A5 a1.f3.length c6] 24]) [1] 3 rfl rfl rfl) ?_
         refine TA.take 6 rfl (by kernel_rfl) rfl (PQ.inB PQ.body) rfl (Val.loadB 0 agg9 rfl rfl rfl) (fun W hO=>hO.selT (Ls:=[Blk b9 [VI a1.f0,.string a1.f1,VI a1.f2,.slice A5 a1.f3.length c6] 24]) [1] 3 rfl rfl rfl) ?_
         refine TA.eff 7 rfl (by kernel_rfl) rfl (TL.buildSlice (xs:=[.const (.string (⟨#[46]⟩:ByteArray)),.tmp 92]) (vs:=[.string (⟨#[46]⟩:ByteArray),.string a1.f1]) (cs:=[.string (⟨#[46]⟩:ByteArray),.string a1.f1]) rfl rfl Try.underlying44 zs9 rfl rfl rfl rfl rfl rfl rfl rfl (fun b4773=>?_))
         refine TA.next (fun W hO=>hO.selT (Ls:=[Blk b9 [VI a1.f0,.string a1.f1,VI a1.f2,.slice A5 a1.f3.length c6] 24]) [2] 4 rfl rfl rfl) ?_
         refine TK.new (Els.nil Kd.string) ?_
         refine TK.new (El.of (k:=Kd.string) (xv:=(⟨#[46]⟩:ByteArray)) (cs:=[.string (⟨#[46]⟩:ByteArray)]) (fun W B=>rfl)) ?_
         refine TK.sel (Ls:=[Els Kd.string [] [],El Kd.string (⟨#[46]⟩:ByteArray) [.string (⟨#[46]⟩:ByteArray)],Blk b4773 [.string (⟨#[46]⟩:ByteArray),.string a1.f1] 9,Blk b1 [.slice A2 a0_0.length c3] 46,Blk b9 [VI a1.f0,.string a1.f1,VI a1.f2,.slice A5 a1.f3.length c6] 24,Row Kd.string 9 (.slice A2 a0_0.length c3) a0_0]) [1,0,2,3,4,5] 6 rfl rfl rfl ?_
         refine TK.two (ch:=Els Kd.string [(⟨#[46]⟩:ByteArray)] [.string (⟨#[46]⟩:ByteArray)]) (Els.snoc Kd.string) ?_
         refine TK.new (El.of (k:=Kd.string) (xv:=a1.f1) (cs:=[.string a1.f1]) (fun W B=>rfl)) ?_
         refine TK.sel (Ls:=[Els Kd.string [(⟨#[46]⟩:ByteArray)] [.string (⟨#[46]⟩:ByteArray)],El Kd.string a1.f1 [.string a1.f1],Blk b4773 [.string (⟨#[46]⟩:ByteArray),.string a1.f1] 9,Blk b1 [.slice A2 a0_0.length c3] 46,Blk b9 [VI a1.f0,.string a1.f1,VI a1.f2,.slice A5 a1.f3.length c6] 24,Row Kd.string 9 (.slice A2 a0_0.length c3) a0_0]) [1,0,2,3,4,5] 6 rfl rfl rfl ?_
         refine TK.two (ch:=Els Kd.string [(⟨#[46]⟩:ByteArray),a1.f1] [.string (⟨#[46]⟩:ByteArray),.string a1.f1]) (Els.snoc Kd.string) ?_
         refine TK.sel (Ls:=[Blk b4773 [.string (⟨#[46]⟩:ByteArray),.string a1.f1] 9,Els Kd.string [(⟨#[46]⟩:ByteArray),a1.f1] [.string (⟨#[46]⟩:ByteArray),.string a1.f1],Blk b1 [.slice A2 a0_0.length c3] 46,Blk b9 [VI a1.f0,.string a1.f1,VI a1.f2,.slice A5 a1.f3.length c6] 24,Row Kd.string 9 (.slice A2 a0_0.length c3) a0_0]) [1,0,2,3,4] 5 rfl rfl rfl ?_
         refine TK.two (ch:=Row Kd.string 9 (.slice (some ⟨b4773,0,none⟩) 2 2) ([(⟨#[46]⟩:ByteArray),a1.f1]:List ByteArray)) (Row.lit Kd.string rfl rfl) ?_
         refine TK.share (fun G4775 e4776 hs4777 hb4778=>?_)
         have rd4779:Rd G4775 Kd.string (some ⟨b4773,0,none⟩) ([(⟨#[46]⟩:ByteArray),a1.f1]:List ByteArray):=Rd.row hs4777
         have le4780:([(⟨#[46]⟩:ByteArray),a1.f1]:List ByteArray).length ≤ 2:=Row.le hs4777
         refine TK.sel (Ls:=[Blk b1 [.slice A2 a0_0.length c3] 46,Row Kd.string 9 (.slice A2 a0_0.length c3) a0_0,Blk b9 [VI a1.f0,.string a1.f1,VI a1.f2,.slice A5 a1.f3.length c6] 24]) [0,2,1] 3 rfl rfl rfl ?_
         obtain ⟨y4781,hy4782,h⟩:=bind_no h
         refine TA.eff 8 rfl (by kernel_rfl) rfl (TL.callV (Lin:=[Blk b1 [.slice A2 a0_0.length c3] 46,Row Kd.string 9 (.slice A2 a0_0.length c3) a0_0]) (args:=[VP b1 0,.string (⟨#[]⟩:ByteArray),.agg #[VI y4760.f0,.string y4760.f1,VI y4760.f2,.slice A4769 y4760.f3.length c4770],.slice (some ⟨b4773,0,none⟩) 2 2]) rfl rfl rfl hbd34 rfl rfl (ih34 (a0_0:=a0_0) (a1:=(⟨#[]⟩:ByteArray)) (a2:=y4760) (a3:=([(⟨#[46]⟩:ByteArray),a1.f1]:List ByteArray)) (hr4771.up e4776) hl4772 rd4779 le4780 hy4782) rfl ?_)
         rintro _ _ _ _ ⟨rfl,A4783,c4784,rfl,rfl⟩
         refine TA.next (fun W hO=>(hb4778 _ _ hO).selT (Ls:=[Blk b9 [VI a1.f0,.string a1.f1,VI a1.f2,.slice A5 a1.f3.length c6] 24]) [3] 4 rfl rfl rfl) ?_
         refine TA.done (by kernel_rfl) ?_
         refine TQ.inB ?_
         refine TQ.back hb4778 ?_
         obtain rfl:=Option.some.inj h
         exact TQ.fin (.inr rfl) rfl Try.results37 .nil rfl (FRel.mk (Ls:=[Blk b1 [.slice A4783 y4781.length c4784] 46,Row Kd.string 9 (.slice A4783 y4781.length c4784) y4781]) [1,2] 4 (Gd.le.refl _) rfl rfl rfl ⟨rfl,A4783,c4784,rfl,rfl⟩)
        ·
         refine TC.seq ?_
         refine TC.region ?_
         refine TV rfl rfl rfl (Val.cmp rfl rfl run_eql) ?_
         refine TV rfl rfl rfl (Val.assign rfl) ?_
         refine TL.nil ?_
         refine TQ.then_ ?_
         refine TC.cond_p rfl h (fun hc4872 h=>?_) (fun hc4872 h=>?_)
         ·
          refine TC.seq ?_
          refine TC.region ?_
          refine TV rfl rfl rfl (Val.move rfl) ?_
          refine TV rfl rfl rfl (Val.fieldAddrB Try.underlying24 rfl fsz9 rfl rfl rfl) ?_
          refine TV rfl rfl rfl (Val.loadB 1 agg9 rfl rfl rfl) ?_
          refine TL.cons (TL.buildSlice (xs:=[.tmp 99,.const (.string (⟨#[40]⟩:ByteArray))]) (vs:=[.string a1.f1,.string (⟨#[40]⟩:ByteArray)]) (cs:=[.string a1.f1,.string (⟨#[40]⟩:ByteArray)]) rfl rfl Try.underlying44 zs9 rfl rfl rfl rfl rfl rfl rfl rfl (fun b4873=>?_))
          refine TK.new (Els.nil Kd.string) ?_
          refine TK.new (El.of (k:=Kd.string) (xv:=a1.f1) (cs:=[.string a1.f1]) (fun W B=>rfl)) ?_
          refine TK.sel (Ls:=[Els Kd.string [] [],El Kd.string a1.f1 [.string a1.f1],Blk b4873 [.string a1.f1,.string (⟨#[40]⟩:ByteArray)] 9,Blk b1 [.slice A2 a0_0.length c3] 46,Blk b9 [VI a1.f0,.string a1.f1,VI a1.f2,.slice A5 a1.f3.length c6] 24,Row Kd.string 9 (.slice A2 a0_0.length c3) a0_0]) [1,0,2,3,4,5] 6 rfl rfl rfl ?_
          refine TK.two (ch:=Els Kd.string [a1.f1] [.string a1.f1]) (Els.snoc Kd.string) ?_
          refine TK.new (El.of (k:=Kd.string) (xv:=(⟨#[40]⟩:ByteArray)) (cs:=[.string (⟨#[40]⟩:ByteArray)]) (fun W B=>rfl)) ?_
          refine TK.sel (Ls:=[Els Kd.string [a1.f1] [.string a1.f1],El Kd.string (⟨#[40]⟩:ByteArray) [.string (⟨#[40]⟩:ByteArray)],Blk b4873 [.string a1.f1,.string (⟨#[40]⟩:ByteArray)] 9,Blk b1 [.slice A2 a0_0.length c3] 46,Blk b9 [VI a1.f0,.string a1.f1,VI a1.f2,.slice A5 a1.f3.length c6] 24,Row Kd.string 9 (.slice A2 a0_0.length c3) a0_0]) [1,0,2,3,4,5] 6 rfl rfl rfl ?_
          refine TK.two (ch:=Els Kd.string [a1.f1,(⟨#[40]⟩:ByteArray)] [.string a1.f1,.string (⟨#[40]⟩:ByteArray)]) (Els.snoc Kd.string) ?_
          refine TK.sel (Ls:=[Blk b4873 [.string a1.f1,.string (⟨#[40]⟩:ByteArray)] 9,Els Kd.string [a1.f1,(⟨#[40]⟩:ByteArray)] [.string a1.f1,.string (⟨#[40]⟩:ByteArray)],Blk b1 [.slice A2 a0_0.length c3] 46,Blk b9 [VI a1.f0,.string a1.f1,VI a1.f2,.slice A5 a1.f3.length c6] 24,Row Kd.string 9 (.slice A2 a0_0.length c3) a0_0]) [1,0,2,3,4] 5 rfl rfl rfl ?_
          refine TK.two (ch:=Row Kd.string 9 (.slice (some ⟨b4873,0,none⟩) 2 2) ([a1.f1,(⟨#[40]⟩:ByteArray)]:List ByteArray)) (Row.lit Kd.string rfl rfl) ?_
          refine TK.share (fun G4875 e4876 hs4877 hb4878=>?_)
          have rd4879:Rd G4875 Kd.string (some ⟨b4873,0,none⟩) ([a1.f1,(⟨#[40]⟩:ByteArray)]:List ByteArray):=Rd.row hs4877
          have le4880:([a1.f1,(⟨#[40]⟩:ByteArray)]:List ByteArray).length ≤ 2:=Row.le hs4877
          refine TK.sel (Ls:=[Blk b1 [.slice A2 a0_0.length c3] 46,Row Kd.string 9 (.slice A2 a0_0.length c3) a0_0,Blk b9 [VI a1.f0,.string a1.f1,VI a1.f2,.slice A5 a1.f3.length c6] 24]) [0,2,1] 3 rfl rfl rfl ?_
          obtain ⟨y4881,hy4882,h⟩:=bind_no h
          refine TL.cons (TL.callV (Lin:=[Blk b1 [.slice A2 a0_0.length c3] 46,Row Kd.string 9 (.slice A2 a0_0.length c3) a0_0]) (args:=[VP b1 0,.slice (some ⟨b4873,0,none⟩) 2 2]) rfl rfl rfl hbd32 rfl rfl (parse_writer_put.calls (a0_0:=a0_0) (a1:=([a1.f1,(⟨#[40]⟩:ByteArray)]:List ByteArray)) rd4879 le4880 hy4882) rfl ?_)
          rintro _ _ _ _ ⟨rfl,A4883,c4884,rfl,rfl⟩
          refine TL.nil ?_
          refine TQ.then_ ?_
          refine TC.seq ?_
          refine TC.region ?_
          refine TV rfl rfl rfl (Val.move rfl) ?_
          refine TV rfl rfl rfl (Val.fieldAddrB Try.underlying24 rfl fsz22 rfl rfl rfl) ?_
          refine TV rfl rfl rfl (Val.loadB 2 agg22 rfl rfl rfl) ?_
          obtain ⟨y4886,hy4887,h⟩:=bind_no h
          refine TL.cons (TL.callV (Lin:=[Blk b1 [.slice A4883 y4881.length c4884] 46,Row Kd.string 9 (.slice A4883 y4881.length c4884) y4881]) (args:=[VP b1 0,.slice A5 a1.f3.length c6,.string (⟨#[44]⟩:ByteArray)]) rfl rfl rfl hbd50 rfl rfl (ih50 (a0_0:=y4881) (a1:=a1.f3) (a2:=(⟨#[44]⟩:ByteArray)) (hr7.up e4876) hl8 hy4887) rfl ?_)
          rintro _ _ _ _ ⟨rfl,A4888,c4889,rfl,rfl⟩
          refine TL.nil ?_
          refine TQ.then_ ?_
          refine TC.region ?_
          refine TV rfl rfl rfl (Val.move rfl) ?_
          refine TL.cons (TL.buildSlice (xs:=[.const (.string (⟨#[41]⟩:ByteArray))]) (vs:=[.string (⟨#[41]⟩:ByteArray)]) (cs:=[.string (⟨#[41]⟩:ByteArray)]) rfl rfl Try.underlying44 zs9 rfl rfl rfl rfl rfl rfl rfl rfl (fun b4891=>?_))
          refine TK.new (Els.nil Kd.string) ?_
          refine TK.new (El.of (k:=Kd.string) (xv:=(⟨#[41]⟩:ByteArray)) (cs:=[.string (⟨#[41]⟩:ByteArray)]) (fun W B=>rfl)) ?_
          refine TK.sel (Ls:=[Els Kd.string [] [],El Kd.string (⟨#[41]⟩:ByteArray) [.string (⟨#[41]⟩:ByteArray)],Blk b4891 [.string (⟨#[41]⟩:ByteArray)] 9,Blk b1 [.slice A4888 y4886.length c4889] 46,Row Kd.string 9 (.slice A4888 y4886.length c4889) y4886,Blk b9 [VI a1.f0,.string a1.f1,VI a1.f2,.slice A5 a1.f3.length c6] 24]) [1,0,2,3,4,5] 6 rfl rfl rfl ?_
          refine TK.two (ch:=Els Kd.string [(⟨#[41]⟩:ByteArray)] [.string (⟨#[41]⟩:ByteArray)]) (Els.snoc Kd.string) ?_
          refine TK.sel (Ls:=[Blk b4891 [.string (⟨#[41]⟩:ByteArray)] 9,Els Kd.string [(⟨#[41]⟩:ByteArray)] [.string (⟨#[41]⟩:ByteArray)],Blk b1 [.slice A4888 y4886.length c4889] 46,Row Kd.string 9 (.slice A4888 y4886.length c4889) y4886,Blk b9 [VI a1.f0,.string a1.f1,VI a1.f2,.slice A5 a1.f3.length c6] 24]) [1,0,2,3,4] 5 rfl rfl rfl ?_
          refine TK.two (ch:=Row Kd.string 9 (.slice (some ⟨b4891,0,none⟩) 1 1) ([(⟨#[41]⟩:ByteArray)]:List ByteArray)) (Row.lit Kd.string rfl rfl) ?_
          refine TK.share (fun G4893 e4894 hs4895 hb4896=>?_)
          have rd4897:Rd G4893 Kd.string (some ⟨b4891,0,none⟩) ([(⟨#[41]⟩:ByteArray)]:List ByteArray):=Rd.row hs4895
          have le4898:([(⟨#[41]⟩:ByteArray)]:List ByteArray).length ≤ 1:=Row.le hs4895
          obtain ⟨y4899,hy4900,h⟩:=bind_no h
          refine TL.cons (TL.callV (Lin:=[Blk b1 [.slice A4888 y4886.length c4889] 46,Row Kd.string 9 (.slice A4888 y4886.length c4889) y4886]) (args:=[VP b1 0,.slice (some ⟨b4891,0,none⟩) 1 1]) rfl rfl rfl hbd32 rfl rfl (parse_writer_put.calls (a0_0:=y4886) (a1:=([(⟨#[41]⟩:ByteArray)]:List ByteArray)) rd4897 le4898 hy4900) rfl ?_)
          rintro _ _ _ _ ⟨rfl,A4901,c4902,rfl,rfl⟩
          refine TL.nil ?_
          refine TQ.inB ?_
          refine TQ.back hb4896 ?_
          refine TQ.back hb4878 ?_
          obtain rfl:=Option.some.inj h
          exact TQ.fin (.inr rfl) rfl Try.results37 .nil rfl (FRel.mk (Ls:=[Blk b1 [.slice A4901 y4899.length c4902] 46,Row Kd.string 9 (.slice A4901 y4899.length c4902) y4899]) [2,3] 5 (Gd.le.refl _) rfl rfl rfl ⟨rfl,A4901,c4902,rfl,rfl⟩)
         ·
          refine TC.seq ?_
          refine TC.region ?_
          refine TV rfl rfl rfl (Val.cmp rfl rfl run_eql) ?_
          refine TV rfl rfl rfl (Val.assign rfl) ?_
          refine TL.nil ?_
          refine TQ.then_ ?_
          refine TC.cond_p rfl h (fun hc4958 h=>?_) (fun hc4958 h=>?_)
          ·
           refine TC.seq ?_
           refine TC.region ?_
           refine TV rfl rfl rfl (Val.move rfl) ?_
           refine TL.cons (TL.buildSlice (xs:=[.const (.string (⟨#[110,101,119]⟩:ByteArray)),.const (.string (⟨#[40]⟩:ByteArray))]) (vs:=[.string (⟨#[110,101,119]⟩:ByteArray),.string (⟨#[40]⟩:ByteArray)]) (cs:=[.string (⟨#[110,101,119]⟩:ByteArray),.string (⟨#[40]⟩:ByteArray)]) rfl rfl Try.underlying44 zs9 rfl rfl rfl rfl rfl rfl rfl rfl (fun b4959=>?_))
           refine TK.new (Els.nil Kd.string) ?_
           refine TK.new (El.of (k:=Kd.string) (xv:=(⟨#[110,101,119]⟩:ByteArray)) (cs:=[.string (⟨#[110,101,119]⟩:ByteArray)]) (fun W B=>rfl)) ?_
           refine TK.sel (Ls:=[Els Kd.string [] [],El Kd.string (⟨#[110,101,119]⟩:ByteArray) [.string (⟨#[110,101,119]⟩:ByteArray)],Blk b4959 [.string (⟨#[110,101,119]⟩:ByteArray),.string (⟨#[40]⟩:ByteArray)] 9,Blk b1 [.slice A2 a0_0.length c3] 46,Blk b9 [VI a1.f0,.string a1.f1,VI a1.f2,.slice A5 a1.f3.length c6] 24,Row Kd.string 9 (.slice A2 a0_0.length c3) a0_0]) [1,0,2,3,4,5] 6 rfl rfl rfl ?_
           refine TK.two (ch:=Els Kd.string [(⟨#[110,101,119]⟩:ByteArray)] [.string (⟨#[110,101,119]⟩:ByteArray)]) (Els.snoc Kd.string) ?_
           refine TK.new (El.of (k:=Kd.string) (xv:=(⟨#[40]⟩:ByteArray)) (cs:=[.string (⟨#[40]⟩:ByteArray)]) (fun W B=>rfl)) ?_
           refine TK.sel (Ls:=[Els Kd.string [(⟨#[110,101,119]⟩:ByteArray)] [.string (⟨#[110,101,119]⟩:ByteArray)],El Kd.string (⟨#[40]⟩:ByteArray) [.string (⟨#[40]⟩:ByteArray)],Blk b4959 [.string (⟨#[110,101,119]⟩:ByteArray),.string (⟨#[40]⟩:ByteArray)] 9,Blk b1 [.slice A2 a0_0.length c3] 46,Blk b9 [VI a1.f0,.string a1.f1,VI a1.f2,.slice A5 a1.f3.length c6] 24,Row Kd.string 9 (.slice A2 a0_0.length c3) a0_0]) [1,0,2,3,4,5] 6 rfl rfl rfl ?_
           refine TK.two (ch:=Els Kd.string [(⟨#[110,101,119]⟩:ByteArray),(⟨#[40]⟩:ByteArray)] [.string (⟨#[110,101,119]⟩:ByteArray),.string (⟨#[40]⟩:ByteArray)]) (Els.snoc Kd.string) ?_
           refine TK.sel (Ls:=[Blk b4959 [.string (⟨#[110,101,119]⟩:ByteArray),.string (⟨#[40]⟩:ByteArray)] 9,Els Kd.string [(⟨#[110,101,119]⟩:ByteArray),(⟨#[40]⟩:ByteArray)] [.string (⟨#[110,101,119]⟩:ByteArray),.string (⟨#[40]⟩:ByteArray)],Blk b1 [.slice A2 a0_0.length c3] 46,Blk b9 [VI a1.f0,.string a1.f1,VI a1.f2,.slice A5 a1.f3.length c6] 24,Row Kd.string 9 (.slice A2 a0_0.length c3) a0_0]) [1,0,2,3,4] 5 rfl rfl rfl ?_
           refine TK.two (ch:=Row Kd.string 9 (.slice (some ⟨b4959,0,none⟩) 2 2) ([(⟨#[110,101,119]⟩:ByteArray),(⟨#[40]⟩:ByteArray)]:List ByteArray)) (Row.lit Kd.string rfl rfl) ?_
           refine TK.share (fun G4961 e4962 hs4963 hb4964=>?_)
           have rd4965:Rd G4961 Kd.string (some ⟨b4959,0,none⟩) ([(⟨#[110,101,119]⟩:ByteArray),(⟨#[40]⟩:ByteArray)]:List ByteArray):=Rd.row hs4963
           have le4966:([(⟨#[110,101,119]⟩:ByteArray),(⟨#[40]⟩:ByteArray)]:List ByteArray).length ≤ 2:=Row.le hs4963
           refine TK.sel (Ls:=[Blk b1 [.slice A2 a0_0.length c3] 46,Row Kd.string 9 (.slice A2 a0_0.length c3) a0_0,Blk b9 [VI a1.f0,.string a1.f1,VI a1.f2,.slice A5 a1.f3.length c6] 24]) [0,2,1] 3 rfl rfl rfl ?_
           obtain ⟨y4967,hy4968,h⟩:=bind_no h
           refine TL.cons (TL.callV (Lin:=[Blk b1 [.slice A2 a0_0.length c3] 46,Row Kd.string 9 (.slice A2 a0_0.length c3) a0_0]) (args:=[VP b1 0,.slice (some ⟨b4959,0,none⟩) 2 2]) rfl rfl rfl hbd32 rfl rfl (parse_writer_put.calls (a0_0:=a0_0) (a1:=([(⟨#[110,101,119]⟩:ByteArray),(⟨#[40]⟩:ByteArray)]:List ByteArray)) rd4965 le4966 hy4968) rfl ?_)
           rintro _ _ _ _ ⟨rfl,A4969,c4970,rfl,rfl⟩
           refine TL.nil ?_
           refine TQ.then_ ?_
           refine TC.region ?_
           refine TV rfl rfl rfl (Val.move rfl) ?_
           refine TV rfl rfl rfl (Val.fieldAddrB Try.underlying24 rfl fsz22 rfl rfl rfl) ?_
           refine TV rfl rfl rfl (Val.loadB 2 agg22 rfl rfl rfl) ?_
           obtain ⟨y4972,hx4973,h⟩:=bind_no h
           obtain ⟨ad4974,cs4980,hA4975,hi4976,hj4977,hcl4978,hK4979⟩:=Rd.at (hr7.up e4962) hx4973
           obtain ⟨A4981,c4982,rfl,hr4983,hl4984⟩:=k24_openR hK4979
           refine TV rfl rfl rfl (Val.indexAddr Try.underlying22 fsz24 rfl hA4975 rfl hi4976 hj4977) ?_
           refine TV rfl rfl rfl (Val.loadsS (cs:=[VI y4972.f0,.string y4972.f1,VI y4972.f2,.slice A4981 y4972.f3.length c4982]) agg24 fsz24 rfl rfl (Cl.sub (off:=0) (n:=4) hcl4978 rfl)) ?_
           refine TL.cons (TL.buildSlice (xs:=[.const (.string (⟨#[41]⟩:ByteArray))]) (vs:=[.string (⟨#[41]⟩:ByteArray)]) (cs:=[.string (⟨#[41]⟩:ByteArray)]) rfl rfl Try.underlying44 zs9 rfl rfl rfl rfl rfl rfl rfl rfl (fun b4985=>?_))
           refine TK.new (Els.nil Kd.string) ?_
           refine TK.new (El.of (k:=Kd.string) (xv:=(⟨#[41]⟩:ByteArray)) (cs:=[.string (⟨#[41]⟩:ByteArray)]) (fun W B=>rfl)) ?_
           refine TK.sel (Ls:=[Els Kd.string [] [],El Kd.string (⟨#[41]⟩:ByteArray) [.string (⟨#[41]⟩:ByteArray)],Blk b4985 [.string (⟨#[41]⟩:ByteArray)] 9,Blk b1 [.slice A4969 y4967.length c4970] 46,Row Kd.string 9 (.slice A4969 y4967.length c4970) y4967,Blk b9 [VI a1.f0,.string a1.f1,VI a1.f2,.slice A5 a1.f3.length c6] 24]) [1,0,2,3,4,5] 6 rfl rfl rfl ?_
           refine TK.two (ch:=Els Kd.string [(⟨#[41]⟩:ByteArray)] [.string (⟨#[41]⟩:ByteArray)]) (Els.snoc Kd.string) ?_
           refine TK.sel (Ls:=[Blk b4985 [.string (⟨#[41]⟩:ByteArray)] 9,Els Kd.string [(⟨#[41]⟩:ByteArray)] [.string (⟨#[41]⟩:ByteArray)],Blk b1 [.slice A4969 y4967.length c4970] 46,Row Kd.string 9 (.slice A4969 y4967.length c4970) y4967,Blk b9 [VI a1.f0,.string a1.f1,VI a1.f2,.slice A5 a1.f3.length c6] 24]) [1,0,2,3,4] 5 rfl rfl rfl ?_
           refine TK.two (ch:=Row Kd.string 9 (.slice (some ⟨b4985,0,none⟩) 1 1) ([(⟨#[41]⟩:ByteArray)]:List ByteArray)) (Row.lit Kd.string rfl rfl) ?_
           refine TK.share (fun G4987 e4988 hs4989 hb4990=>?_)
           have rd4991:Rd G4987 Kd.string (some ⟨b4985,0,none⟩) ([(⟨#[41]⟩:ByteArray)]:List ByteArray):=Rd.row hs4989
           have le4992:([(⟨#[41]⟩:ByteArray)]:List ByteArray).length ≤ 1:=Row.le hs4989
           obtain ⟨y4993,hy4994,h⟩:=bind_no h
           refine TL.cons (TL.callV (Lin:=[Blk b1 [.slice A4969 y4967.length c4970] 46,Row Kd.string 9 (.slice A4969 y4967.length c4970) y4967]) (args:=[VP b1 0,.string (⟨#[]⟩:ByteArray),.agg #[VI y4972.f0,.string y4972.f1,VI y4972.f2,.slice A4981 y4972.f3.length c4982],.slice (some ⟨b4985,0,none⟩) 1 1]) rfl rfl rfl hbd34 rfl rfl (ih34 (a0_0:=y4967) (a1:=(⟨#[]⟩:ByteArray)) (a2:=y4972) (a3:=([(⟨#[41]⟩:ByteArray)]:List ByteArray)) (hr4983.up e4988) hl4984 rd4991 le4992 hy4994) rfl ?_)
           rintro _ _ _ _ ⟨rfl,A4995,c4996,rfl,rfl⟩
           refine TL.nil ?_
           refine TQ.inB ?_
           refine TQ.back hb4990 ?_
           refine TQ.back hb4964 ?_
           obtain rfl:=Option.some.inj h
           exact TQ.fin (.inr rfl) rfl Try.results37 .nil rfl (FRel.mk (Ls:=[Blk b1 [.slice A4995 y4993.length c4996] 46,Row Kd.string 9 (.slice A4995 y4993.length c4996) y4993]) [2,3] 5 (Gd.le.refl _) rfl rfl rfl ⟨rfl,A4995,c4996,rfl,rfl⟩)
          ·
           refine TC.seq ?_
           refine TC.region ?_
           refine TV rfl rfl rfl (Val.cmp rfl rfl run_eql) ?_
           refine TV rfl rfl rfl (Val.assign rfl) ?_
           refine TL.nil ?_
           refine TQ.then_ ?_
           refine TC.cond_p rfl h (fun hc5012 h=>?_) (fun hc5012 h=>?_)
           ·
            refine TC.region ?_
            refine TV rfl rfl rfl (Val.move rfl) ?_
            refine TL.cons (TL.buildSlice (xs:=[.const (.string (⟨#[114,101,97,100]⟩:ByteArray))]) (vs:=[.string (⟨#[114,101,97,100]⟩:ByteArray)]) (cs:=[.string (⟨#[114,101,97,100]⟩:ByteArray)]) rfl rfl Try.underlying44 zs9 rfl rfl rfl rfl rfl rfl rfl rfl (fun b5013=>?_))
            refine TK.new (Els.nil Kd.string) ?_
            refine TK.new (El.of (k:=Kd.string) (xv:=(⟨#[114,101,97,100]⟩:ByteArray)) (cs:=[.string (⟨#[114,101,97,100]⟩:ByteArray)]) (fun W B=>rfl)) ?_
            refine TK.sel (Ls:=[Els Kd.string [] [],El Kd.string (⟨#[114,101,97,100]⟩:ByteArray) [.string (⟨#[114,101,97,100]⟩:ByteArray)],Blk b5013 [.string (⟨#[114,101,97,100]⟩:ByteArray)] 9,Blk b1 [.slice A2 a0_0.length c3] 46,Blk b9 [VI a1.f0,.string a1.f1,VI a1.f2,.slice A5 a1.f3.length c6] 24,Row Kd.string 9 (.slice A2 a0_0.length c3) a0_0]) [1,0,2,3,4,5] 6 rfl rfl rfl ?_
            refine TK.two (ch:=Els Kd.string [(⟨#[114,101,97,100]⟩:ByteArray)] [.string (⟨#[114,101,97,100]⟩:ByteArray)]) (Els.snoc Kd.string) ?_
            refine TK.sel (Ls:=[Blk b5013 [.string (⟨#[114,101,97,100]⟩:ByteArray)] 9,Els Kd.string [(⟨#[114,101,97,100]⟩:ByteArray)] [.string (⟨#[114,101,97,100]⟩:ByteArray)],Blk b1 [.slice A2 a0_0.length c3] 46,Blk b9 [VI a1.f0,.string a1.f1,VI a1.f2,.slice A5 a1.f3.length c6] 24,Row Kd.string 9 (.slice A2 a0_0.length c3) a0_0]) [1,0,2,3,4] 5 rfl rfl rfl ?_
            refine TK.two (ch:=Row Kd.string 9 (.slice (some ⟨b5013,0,none⟩) 1 1) ([(⟨#[114,101,97,100]⟩:ByteArray)]:List ByteArray)) (Row.lit Kd.string rfl rfl) ?_
            refine TK.share (fun G5015 e5016 hs5017 hb5018=>?_)
            have rd5019:Rd G5015 Kd.string (some ⟨b5013,0,none⟩) ([(⟨#[114,101,97,100]⟩:ByteArray)]:List ByteArray):=Rd.row hs5017
            have le5020:([(⟨#[114,101,97,100]⟩:ByteArray)]:List ByteArray).length ≤ 1:=Row.le hs5017
            refine TK.sel (Ls:=[Blk b1 [.slice A2 a0_0.length c3] 46,Row Kd.string 9 (.slice A2 a0_0.length c3) a0_0,Blk b9 [VI a1.f0,.string a1.f1,VI a1.f2,.slice A5 a1.f3.length c6] 24]) [0,2,1] 3 rfl rfl rfl ?_
            obtain ⟨y5021,hy5022,h⟩:=bind_no h
            refine TL.cons (TL.callV (Lin:=[Blk b1 [.slice A2 a0_0.length c3] 46,Row Kd.string 9 (.slice A2 a0_0.length c3) a0_0]) (args:=[VP b1 0,.slice (some ⟨b5013,0,none⟩) 1 1]) rfl rfl rfl hbd32 rfl rfl (parse_writer_put.calls (a0_0:=a0_0) (a1:=([(⟨#[114,101,97,100]⟩:ByteArray)]:List ByteArray)) rd5019 le5020 hy5022) rfl ?_)
            rintro _ _ _ _ ⟨rfl,A5023,c5024,rfl,rfl⟩
            refine TL.nil ?_
            refine TQ.inB ?_
            refine TQ.back hb5018 ?_
            obtain rfl:=Option.some.inj h
            exact TQ.fin (.inr rfl) rfl Try.results37 .nil rfl (FRel.mk (Ls:=[Blk b1 [.slice A5023 y5021.length c5024] 46,Row Kd.string 9 (.slice A5023 y5021.length c5024) y5021]) [1,2] 4 (Gd.le.refl _) rfl rfl rfl ⟨rfl,A5023,c5024,rfl,rfl⟩)
           ·
            refine TC.skip ?_
            refine TQ.inB ?_
            obtain rfl:=Option.some.inj h
            exact TQ.fin (.inr rfl) rfl Try.results37 .nil rfl (FRel.mk (Ls:=[Blk b1 [.slice A2 a0_0.length c3] 46,Row Kd.string 9 (.slice A2 a0_0.length c3) a0_0]) [0,2] 3 (Gd.le.refl _) rfl rfl rfl ⟨rfl,A2,c3,rfl,rfl⟩)
 ·
  refine TC.cond_p rfl h (fun hc5026 h=>?_) (fun hc5026 h=>?_)
  ·
   refine TC.skip ?_
   exact fun a W hF hO=>⟨decide (a1.f0=17),h,hF.sub ⟨rfl,rfl,rfl,rfl,trivial⟩,hO.selT (Ls:=[Blk b1 [.slice A2 a0_0.length c3] 46,Blk b9 [VI a1.f0,.string a1.f1,VI a1.f2,.slice A5 a1.f3.length c6] 24,Row Kd.string 9 (.slice A2 a0_0.length c3) a0_0]) [1,0,2] 3 rfl rfl rfl⟩
  ·
   refine TC.region ?_
   refine TV rfl rfl rfl (Val.cmp rfl rfl run_eql) ?_
   refine TV rfl rfl rfl (Val.assign rfl) ?_
   refine TL.nil ?_
   exact fun a W hF hO=>⟨decide (a1.f0=18),h,hF.sub ⟨rfl,rfl,rfl,rfl,trivial⟩,hO.selT (Ls:=[Blk b1 [.slice A2 a0_0.length c3] 46,Blk b9 [VI a1.f0,.string a1.f1,VI a1.f2,.slice A5 a1.f3.length c6] 24,Row Kd.string 9 (.slice A2 a0_0.length c3) a0_0]) [1,0,2] 3 rfl rfl rfl⟩
def parse_writer_list.l0 (rec20:((List ByteArray) → S24 → Option (List ByteArray))) (a1:(List S24)) (a2:ByteArray):Nat → Int → (List ByteArray) → Option ((List ByteArray))
 | 0,_,_=>none
 | n276 + 1,x160,l161=>(if x160 < (a1.length:Int) then (at? a1 x160).bind fun y437=>jn (γ:=((List ByteArray))) (fun (l465:(List ByteArray))=>(rec20 l465 y437).bind fun (y470:(List ByteArray))=>parse_writer_list.l0 rec20 a1 a2 n276 (IntKind.i64.wrap (x160 + 1)) y470) (fun (j469:((List ByteArray) → Option ((List ByteArray))))=>(if 0 < x160 then (parse_writer_put.f l161 ([a2]:List ByteArray)).bind fun (y484:(List ByteArray))=>j469 y484 else j469 l161)) else some l161)
def parse_writer_list.g (rec9:(S24 → Option ByteArray)) (rec20:((List ByteArray) → S24 → Option (List ByteArray))) (rec33:((List ByteArray) → S24 → Option (List ByteArray))) (rec34:((List ByteArray) → ByteArray → S24 → (List ByteArray) → Option (List ByteArray))) (rec35:((List ByteArray) → S24 → Option (List ByteArray))) (rec36:((List ByteArray) → S24 → Option (List ByteArray))) (rec37:((List ByteArray) → S24 → Option (List ByteArray))) (rec50:((List ByteArray) → (List S24) → ByteArray → Option (List ByteArray))) (a0_0:(List ByteArray)) (a1:(List S24)) (a2:ByteArray):Option (List ByteArray):=(parse_writer_list.l0 rec20 a1 a2 (a1.length + 1) 0 a0_0).bind fun (l271:(List ByteArray))=>some l271
theorem parse_writer_list.step (rec9:(S24 → Option ByteArray)) (rec20:((List ByteArray) → S24 → Option (List ByteArray))) (rec33:((List ByteArray) → S24 → Option (List ByteArray))) (rec34:((List ByteArray) → ByteArray → S24 → (List ByteArray) → Option (List ByteArray))) (rec35:((List ByteArray) → S24 → Option (List ByteArray))) (rec36:((List ByteArray) → S24 → Option (List ByteArray))) (rec37:((List ByteArray) → S24 → Option (List ByteArray))) (rec50:((List ByteArray) → (List S24) → ByteArray → Option (List ByteArray))) (ih9:∀ {G:Gd} {r:ByteArray} {a0:S24} {A1:Option Addr} {c2:Nat} (hr3:Rd G k24 A1 a0.f3) (hl4:a0.f3.length ≤ c2),rec9 a0=some r → Fn Try.prog 9 G [] [.agg #[VI a0.f0,.string a0.f1,VI a0.f2,.slice A1 a0.f3.length c2]] (parse_Text.post G  r)) (ih20:∀ {G:Gd} {r:(List ByteArray)} {a0_0:(List ByteArray)} {a1:S24} {b1:Nat} {A2:Option Addr} {c3:Nat} {A5:Option Addr} {c6:Nat} (hr7:Rd G k24 A5 a1.f3) (hl8:a1.f3.length ≤ c6),rec20 a0_0 a1=some r → Fn Try.prog 20 G [Blk b1 [.slice A2 a0_0.length c3] 46,Row Kd.string 9 (.slice A2 a0_0.length c3) a0_0] [VP b1 0,.agg #[VI a1.f0,.string a1.f1,VI a1.f2,.slice A5 a1.f3.length c6]] (parse_writer_node.post G b1 A2 c3 A5 c6 a0_0 a1 r)) (ih33:∀ {G:Gd} {r:(List ByteArray)} {a0_0:(List ByteArray)} {a1:S24} {b1:Nat} {A2:Option Addr} {c3:Nat} {A5:Option Addr} {c6:Nat} (hr7:Rd G k24 A5 a1.f3) (hl8:a1.f3.length ≤ c6),rec33 a0_0 a1=some r → Fn Try.prog 33 G [Blk b1 [.slice A2 a0_0.length c3] 46,Row Kd.string 9 (.slice A2 a0_0.length c3) a0_0] [VP b1 0,.agg #[VI a1.f0,.string a1.f1,VI a1.f2,.slice A5 a1.f3.length c6]] (parse_writer_head.post G b1 A2 c3 A5 c6 a0_0 a1 r)) (ih34:∀ {G:Gd} {r:(List ByteArray)} {a0_0:(List ByteArray)} {a1:ByteArray} {a2:S24} {a3:(List ByteArray)} {b1:Nat} {A2:Option Addr} {c3:Nat} {A5:Option Addr} {c6:Nat} {A9:Option Addr} {c10:Nat} (hr7:Rd G k24 A5 a2.f3) (hl8:a2.f3.length ≤ c6) (hr11:Rd G Kd.string A9 a3) (hl12:a3.length ≤ c10),rec34 a0_0 a1 a2 a3=some r → Fn Try.prog 34 G [Blk b1 [.slice A2 a0_0.length c3] 46,Row Kd.string 9 (.slice A2 a0_0.length c3) a0_0] [VP b1 0,.string a1,.agg #[VI a2.f0,.string a2.f1,VI a2.f2,.slice A5 a2.f3.length c6],.slice A9 a3.length c10] (parse_writer_around.post G b1 A2 c3 A5 c6 A9 c10 a0_0 a1 a2 a3 r)) (ih35:∀ {G:Gd} {r:(List ByteArray)} {a0_0:(List ByteArray)} {a1:S24} {b1:Nat} {A2:Option Addr} {c3:Nat} {A5:Option Addr} {c6:Nat} (hr7:Rd G k24 A5 a1.f3) (hl8:a1.f3.length ≤ c6),rec35 a0_0 a1=some r → Fn Try.prog 35 G [Blk b1 [.slice A2 a0_0.length c3] 46,Row Kd.string 9 (.slice A2 a0_0.length c3) a0_0] [VP b1 0,.agg #[VI a1.f0,.string a1.f1,VI a1.f2,.slice A5 a1.f3.length c6]] (parse_writer_typ.post G b1 A2 c3 A5 c6 a0_0 a1 r)) (ih36:∀ {G:Gd} {r:(List ByteArray)} {a0_0:(List ByteArray)} {a1:S24} {b1:Nat} {A2:Option Addr} {c3:Nat} {A5:Option Addr} {c6:Nat} (hr7:Rd G k24 A5 a1.f3) (hl8:a1.f3.length ≤ c6),rec36 a0_0 a1=some r → Fn Try.prog 36 G [Blk b1 [.slice A2 a0_0.length c3] 46,Row Kd.string 9 (.slice A2 a0_0.length c3) a0_0] [VP b1 0,.agg #[VI a1.f0,.string a1.f1,VI a1.f2,.slice A5 a1.f3.length c6]] (parse_writer_statement.post G b1 A2 c3 A5 c6 a0_0 a1 r)) (ih37:∀ {G:Gd} {r:(List ByteArray)} {a0_0:(List ByteArray)} {a1:S24} {b1:Nat} {A2:Option Addr} {c3:Nat} {A5:Option Addr} {c6:Nat} (hr7:Rd G k24 A5 a1.f3) (hl8:a1.f3.length ≤ c6),rec37 a0_0 a1=some r → Fn Try.prog 37 G [Blk b1 [.slice A2 a0_0.length c3] 46,Row Kd.string 9 (.slice A2 a0_0.length c3) a0_0] [VP b1 0,.agg #[VI a1.f0,.string a1.f1,VI a1.f2,.slice A5 a1.f3.length c6]] (parse_writer_expr.post G b1 A2 c3 A5 c6 a0_0 a1 r)) (ih50:∀ {G:Gd} {r:(List ByteArray)} {a0_0:(List ByteArray)} {a1:(List S24)} {a2:ByteArray} {b1:Nat} {A2:Option Addr} {c3:Nat} {A5:Option Addr} {c6:Nat} (hr7:Rd G k24 A5 a1) (hl8:a1.length ≤ c6),rec50 a0_0 a1 a2=some r → Fn Try.prog 50 G [Blk b1 [.slice A2 a0_0.length c3] 46,Row Kd.string 9 (.slice A2 a0_0.length c3) a0_0] [VP b1 0,.slice A5 a1.length c6,.string a2] (parse_writer_list.post G b1 A2 c3 A5 c6 a0_0 a1 a2 r)) {G:Gd} {r:(List ByteArray)} {a0_0:(List ByteArray)} {a1:(List S24)} {a2:ByteArray} {b1:Nat} {A2:Option Addr} {c3:Nat} {A5:Option Addr} {c6:Nat} (hr7:Rd G k24 A5 a1) (hl8:a1.length ≤ c6) (h:parse_writer_list.g rec9 rec20 rec33 rec34 rec35 rec36 rec37 rec50 a0_0 a1 a2=some r):Fn Try.prog 50 G [Blk b1 [.slice A2 a0_0.length c3] 46,Row Kd.string 9 (.slice A2 a0_0.length c3) a0_0] [VP b1 0,.slice A5 a1.length c6,.string a2] (parse_writer_list.post G b1 A2 c3 A5 c6 a0_0 a1 a2 r):=by
 refine Fn.intro (e:=[(0,VP b1 0),(1,.slice A5 a1.length c6),(2,.string a2)]) 25 Try.func50 rfl Try.ntmps50 rfl rfl (Nat.le_of_ble_eq_true rfl) (fun L=>?_)
 unfold parse_writer_list.g at h
 refine TC.seq ?_
 refine TC.region ?_
 refine TV rfl rfl rfl (Val.move rfl) ?_
 refine TV rfl rfl rfl (Val.len Try.underlying22 rfl) ?_
 refine TV rfl rfl rfl (Val.move rfl) ?_
 refine TL.nil ?_
 refine TQ.then_ ?_
 obtain ⟨o275,ho275,ko275⟩:=bind_no h
 clear h
 refine TC.tail (fun a W=>∃ (l271:(List ByteArray)) (A272:Option Addr) (c273:Nat),l271=o275∧Fr 25 a []∧Own G (Blk b1 [.slice A272 l271.length c273] 46::Row Kd.string 9 (.slice A272 l271.length c273) l271::L) W) ?_ ?_
 ·
  rintro a W ⟨l271,A272,c273,rfl,hF,hO⟩
  have h:=ko275
  clear ko275 ho275
  refine TQ.use ?_ hF hO
  clear hF hO
  obtain rfl:=Option.some.inj h
  exact TQ.fin (.inr rfl) rfl Try.results50 .nil rfl (FRel.mk (Ls:=[Blk b1 [.slice A272 l271.length c273] 46,Row Kd.string 9 (.slice A272 l271.length c273) l271]) [0,1] 2 (Gd.le.refl _) rfl rfl rfl ⟨rfl,A272,c273,rfl,rfl⟩)
 ·
  refine TC.block ?_
  intro a W hF hO
  have hS:∃ (x160:Int) (l161:(List ByteArray)) (A162:Option Addr) (c163:Nat),parse_writer_list.l0 rec20 a1 a2 (a1.length + 1) x160 l161=some o275∧Fr 25 a [(0,VP b1 0),(2,.string a2),(8,.slice A5 a1.length c6),(9,VI (a1.length:Int)),(10,VI x160)]∧Own G (Blk b1 [.slice A162 l161.length c163] 46::Row Kd.string 9 (.slice A162 l161.length c163) l161::L) W:=by
   exact ⟨0,a0_0,A2,c3,ho275,hF.sub ⟨rfl,rfl,rfl,rfl,rfl,trivial⟩,hO.selT (Ls:=[Blk b1 [.slice A2 a0_0.length c3] 46,Row Kd.string 9 (.slice A2 a0_0.length c3) a0_0]) [0,1] 2 rfl rfl rfl⟩
  clear hF hO ho275 ko275
  refine TC.loop (fun n276 a W=>∃ (x160:Int) (l161:(List ByteArray)) (A162:Option Addr) (c163:Nat),parse_writer_list.l0 rec20 a1 a2 n276 x160 l161=some o275∧Fr 25 a [(0,VP b1 0),(2,.string a2),(8,.slice A5 a1.length c6),(9,VI (a1.length:Int)),(10,VI x160)]∧Own G (Blk b1 [.slice A162 l161.length c163] 46::Row Kd.string 9 (.slice A162 l161.length c163) l161::L) W) ?_ ?_ hS
  ·
   rintro a W ⟨x160,l161,A162,c163,h,hF,hO⟩
   exact none_no h
  ·
   clear hS
   rintro n276 a W ⟨x160,l161,A162,c163,h,hF,hO⟩
   rw [parse_writer_list.l0] at h
   refine TC.use ?_ hF hO
   clear hF hO
   refine TC.seq ?_
   refine TC.region ?_
   refine TV rfl rfl rfl (Val.cmp rfl rfl run_lss) ?_
   refine TL.nil ?_
   refine TQ.then_ ?_
   refine TC.seq ?_
   refine TC.cond_p rfl h (fun hc384 h=>?_) (fun hc384 h=>?_)
   ·
    refine TC.skip ?_
    refine TQ.then_ ?_
    refine TC.seq ?_
    refine TC.block ?_
    refine TC.seq ?_
    refine TC.region ?_
    refine TV rfl rfl rfl (Val.move rfl) ?_
    obtain ⟨y437,hx438,h⟩:=bind_no h
    obtain ⟨ad439,cs445,hA440,hi441,hj442,hcl443,hK444⟩:=Rd.at hr7 hx438
    obtain ⟨A446,c447,rfl,hr448,hl449⟩:=k24_openR hK444
    refine TV rfl rfl rfl (Val.indexAddr Try.underlying22 fsz24 rfl hA440 rfl hi441 hj442) ?_
    refine TV rfl rfl rfl (Val.loadsS (cs:=[VI y437.f0,.string y437.f1,VI y437.f2,.slice A446 y437.f3.length c447]) agg24 fsz24 rfl rfl (Cl.sub (off:=0) (n:=4) hcl443 rfl)) ?_
    refine TL.cons (TL.alloc (cs:=[VI 0,.string (⟨#[]⟩:ByteArray),VI 0,.slice none 0 0]) rfl rfl zr24 rfl (fun b450=>?_))
    refine TV rfl rfl rfl (Val.assign rfl) ?_
    refine TL.cons (TL.store 0 (ds:=[VI y437.f0,.string y437.f1,VI y437.f2,.slice A446 y437.f3.length c447]) (cs':=[VI y437.f0,.string y437.f1,VI y437.f2,.slice A446 y437.f3.length c447]) (L':=(Blk b450 [VI y437.f0,.string y437.f1,VI y437.f2,.slice A446 y437.f3.length c447] 24::Blk b1 [.slice A162 l161.length c163] 46::Row Kd.string 9 (.slice A162 l161.length c163) l161::L)) rfl fsz24 rfl rfl rfl rfl rfl (Nat.le_of_ble_eq_true rfl) rfl rfl ?_)
    refine TL.nil ?_
    refine TQ.then_ ?_
    refine TC.seq ?_
    refine TC.seq ?_
    refine TC.region ?_
    refine TV rfl rfl rfl (Val.move rfl) ?_
    refine TV rfl rfl rfl (Val.cmp rfl rfl run_gtr) ?_
    refine TL.nil ?_
    refine TQ.then_ ?_
    obtain ⟨j469,hj469,h⟩:=jn_no h
    refine TC.tail (fun a W=>∃ (l465:(List ByteArray)) (A466:Option Addr) (c467:Nat),j469 l465=some o275∧Fr 25 a [(0,VP b1 0),(2,.string a2),(7,VP b450 0),(8,.slice A5 a1.length c6),(9,VI (a1.length:Int)),(10,VI x160)]∧Own G (Blk b1 [.slice A466 l465.length c467] 46::Blk b450 [VI y437.f0,.string y437.f1,VI y437.f2,.slice A446 y437.f3.length c447] 24::Row Kd.string 9 (.slice A466 l465.length c467) l465::L) W) ?_ ?_
    ·
     rintro a W ⟨l465,A466,c467,h,hF,hO⟩
     rw [hj469] at h
     refine TQ.use ?_ hF hO
     clear hF hO
     refine TQ.then_ ?_
     refine TC.region ?_
     refine TV rfl rfl rfl (Val.move rfl) ?_
     refine TV rfl rfl rfl (Val.loadsB 1 (cs:=[VI y437.f0,.string y437.f1,VI y437.f2,.slice A446 y437.f3.length c447]) agg24 fsz24 rfl rfl rfl rfl) ?_
     refine TK.sel (Ls:=[Blk b1 [.slice A466 l465.length c467] 46,Row Kd.string 9 (.slice A466 l465.length c467) l465,Blk b450 [VI y437.f0,.string y437.f1,VI y437.f2,.slice A446 y437.f3.length c447] 24]) [0,2,1] 3 rfl rfl rfl ?_
     obtain ⟨y470,hy471,h⟩:=bind_no h
     refine TL.cons (TL.callV (Lin:=[Blk b1 [.slice A466 l465.length c467] 46,Row Kd.string 9 (.slice A466 l465.length c467) l465]) (args:=[VP b1 0,.agg #[VI y437.f0,.string y437.f1,VI y437.f2,.slice A446 y437.f3.length c447]]) rfl rfl rfl hbd20 rfl rfl (ih20 (a0_0:=l465) (a1:=y437) hr448 hl449 hy471) rfl ?_)
     rintro _ _ _ _ ⟨rfl,A472,c473,rfl,rfl⟩
     refine TL.nil ?_
     refine TQ.inB ?_
     refine TQ.then_ ?_
     refine TC.region ?_
     refine TV rfl rfl rfl (Val.cmp rfl rfl run_add) ?_
     refine TV rfl rfl rfl (Val.move rfl) ?_
     refine TL.nil ?_
     exact fun a W hF hO=>⟨IntKind.i64.wrap (x160 + 1),y470,A472,c473,h,hF.sub ⟨rfl,rfl,rfl,rfl,rfl,trivial⟩,hO.selT (Ls:=[Blk b1 [.slice A472 y470.length c473] 46,Row Kd.string 9 (.slice A472 y470.length c473) y470]) [0,1] 3 rfl rfl rfl⟩
    ·
     refine TC.cond_p rfl h (fun hc475 h=>?_) (fun hc475 h=>?_)
     ·
      refine TC.region ?_
      refine TV rfl rfl rfl (Val.move rfl) ?_
      refine TV rfl rfl rfl (Val.move rfl) ?_
      refine TL.cons (TL.buildSlice (xs:=[.tmp 18]) (vs:=[.string a2]) (cs:=[.string a2]) rfl rfl Try.underlying44 zs9 rfl rfl rfl rfl rfl rfl rfl rfl (fun b476=>?_))
      refine TK.new (Els.nil Kd.string) ?_
      refine TK.new (El.of (k:=Kd.string) (xv:=a2) (cs:=[.string a2]) (fun W B=>rfl)) ?_
      refine TK.sel (Ls:=[Els Kd.string [] [],El Kd.string a2 [.string a2],Blk b476 [.string a2] 9,Blk b450 [VI y437.f0,.string y437.f1,VI y437.f2,.slice A446 y437.f3.length c447] 24,Blk b1 [.slice A162 l161.length c163] 46,Row Kd.string 9 (.slice A162 l161.length c163) l161]) [1,0,2,3,4,5] 6 rfl rfl rfl ?_
      refine TK.two (ch:=Els Kd.string [a2] [.string a2]) (Els.snoc Kd.string) ?_
      refine TK.sel (Ls:=[Blk b476 [.string a2] 9,Els Kd.string [a2] [.string a2],Blk b450 [VI y437.f0,.string y437.f1,VI y437.f2,.slice A446 y437.f3.length c447] 24,Blk b1 [.slice A162 l161.length c163] 46,Row Kd.string 9 (.slice A162 l161.length c163) l161]) [1,0,2,3,4] 5 rfl rfl rfl ?_
      refine TK.two (ch:=Row Kd.string 9 (.slice (some ⟨b476,0,none⟩) 1 1) ([a2]:List ByteArray)) (Row.lit Kd.string rfl rfl) ?_
      refine TK.share (fun G478 e479 hs480 hb481=>?_)
      have rd482:Rd G478 Kd.string (some ⟨b476,0,none⟩) ([a2]:List ByteArray):=Rd.row hs480
      have le483:([a2]:List ByteArray).length ≤ 1:=Row.le hs480
      refine TK.sel (Ls:=[Blk b1 [.slice A162 l161.length c163] 46,Row Kd.string 9 (.slice A162 l161.length c163) l161,Blk b450 [VI y437.f0,.string y437.f1,VI y437.f2,.slice A446 y437.f3.length c447] 24]) [1,2,0] 3 rfl rfl rfl ?_
      obtain ⟨y484,hy485,h⟩:=bind_no h
      refine TL.cons (TL.callV (Lin:=[Blk b1 [.slice A162 l161.length c163] 46,Row Kd.string 9 (.slice A162 l161.length c163) l161]) (args:=[VP b1 0,.slice (some ⟨b476,0,none⟩) 1 1]) rfl rfl rfl hbd32 rfl rfl (parse_writer_put.calls (a0_0:=l161) (a1:=([a2]:List ByteArray)) rd482 le483 hy485) rfl ?_)
      rintro _ _ _ _ ⟨rfl,A486,c487,rfl,rfl⟩
      refine TL.nil ?_
      refine TQ.back hb481 ?_
      exact fun a W hF hO=>⟨y484,A486,c487,h,hF.sub ⟨rfl,rfl,rfl,rfl,rfl,rfl,trivial⟩,hO.selT (Ls:=[Blk b1 [.slice A486 y484.length c487] 46,Blk b450 [VI y437.f0,.string y437.f1,VI y437.f2,.slice A446 y437.f3.length c447] 24,Row Kd.string 9 (.slice A486 y484.length c487) y484]) [1,3,2] 4 rfl rfl rfl⟩
     ·
      refine TC.skip ?_
      exact fun a W hF hO=>⟨l161,A162,c163,h,hF.sub ⟨rfl,rfl,rfl,rfl,rfl,rfl,trivial⟩,hO.selT (Ls:=[Blk b1 [.slice A162 l161.length c163] 46,Blk b450 [VI y437.f0,.string y437.f1,VI y437.f2,.slice A446 y437.f3.length c447] 24,Row Kd.string 9 (.slice A162 l161.length c163) l161]) [1,0,2] 3 rfl rfl rfl⟩
   ·
    refine TC.exit ?_
    refine TQ.thenX ?_
    refine TQ.thenX ?_
    refine TQ.inBX ?_
    exact fun a W hF hO=>⟨l161,A162,c163,Option.some.inj h,hF.sub trivial,hO.selT (Ls:=[Blk b1 [.slice A162 l161.length c163] 46,Row Kd.string 9 (.slice A162 l161.length c163) l161]) [0,1] 2 rfl rfl rfl⟩
def parse_Text.fix:Nat → (S24 → Option ByteArray) × ((List ByteArray) → S24 → Option (List ByteArray)) × ((List ByteArray) → S24 → Option (List ByteArray)) × ((List ByteArray) → ByteArray → S24 → (List ByteArray) → Option (List ByteArray)) × ((List ByteArray) → S24 → Option (List ByteArray)) × ((List ByteArray) → S24 → Option (List ByteArray)) × ((List ByteArray) → S24 → Option (List ByteArray)) × ((List ByteArray) → (List S24) → ByteArray → Option (List ByteArray))
 | 0=>((fun _=>none),(fun _ _=>none),(fun _ _=>none),(fun _ _ _ _=>none),(fun _ _=>none),(fun _ _=>none),(fun _ _=>none),(fun _ _ _=>none))
 | n + 1=>(parse_Text.g (parse_Text.fix n).1 (parse_Text.fix n).2.1 (parse_Text.fix n).2.2.1 (parse_Text.fix n).2.2.2.1 (parse_Text.fix n).2.2.2.2.1 (parse_Text.fix n).2.2.2.2.2.1 (parse_Text.fix n).2.2.2.2.2.2.1 (parse_Text.fix n).2.2.2.2.2.2.2,parse_writer_node.g (parse_Text.fix n).1 (parse_Text.fix n).2.1 (parse_Text.fix n).2.2.1 (parse_Text.fix n).2.2.2.1 (parse_Text.fix n).2.2.2.2.1 (parse_Text.fix n).2.2.2.2.2.1 (parse_Text.fix n).2.2.2.2.2.2.1 (parse_Text.fix n).2.2.2.2.2.2.2,parse_writer_head.g (parse_Text.fix n).1 (parse_Text.fix n).2.1 (parse_Text.fix n).2.2.1 (parse_Text.fix n).2.2.2.1 (parse_Text.fix n).2.2.2.2.1 (parse_Text.fix n).2.2.2.2.2.1 (parse_Text.fix n).2.2.2.2.2.2.1 (parse_Text.fix n).2.2.2.2.2.2.2,parse_writer_around.g (parse_Text.fix n).1 (parse_Text.fix n).2.1 (parse_Text.fix n).2.2.1 (parse_Text.fix n).2.2.2.1 (parse_Text.fix n).2.2.2.2.1 (parse_Text.fix n).2.2.2.2.2.1 (parse_Text.fix n).2.2.2.2.2.2.1 (parse_Text.fix n).2.2.2.2.2.2.2,parse_writer_typ.g (parse_Text.fix n).1 (parse_Text.fix n).2.1 (parse_Text.fix n).2.2.1 (parse_Text.fix n).2.2.2.1 (parse_Text.fix n).2.2.2.2.1 (parse_Text.fix n).2.2.2.2.2.1 (parse_Text.fix n).2.2.2.2.2.2.1 (parse_Text.fix n).2.2.2.2.2.2.2,parse_writer_statement.g (parse_Text.fix n).1 (parse_Text.fix n).2.1 (parse_Text.fix n).2.2.1 (parse_Text.fix n).2.2.2.1 (parse_Text.fix n).2.2.2.2.1 (parse_Text.fix n).2.2.2.2.2.1 (parse_Text.fix n).2.2.2.2.2.2.1 (parse_Text.fix n).2.2.2.2.2.2.2,parse_writer_expr.g (parse_Text.fix n).1 (parse_Text.fix n).2.1 (parse_Text.fix n).2.2.1 (parse_Text.fix n).2.2.2.1 (parse_Text.fix n).2.2.2.2.1 (parse_Text.fix n).2.2.2.2.2.1 (parse_Text.fix n).2.2.2.2.2.2.1 (parse_Text.fix n).2.2.2.2.2.2.2,parse_writer_list.g (parse_Text.fix n).1 (parse_Text.fix n).2.1 (parse_Text.fix n).2.2.1 (parse_Text.fix n).2.2.2.1 (parse_Text.fix n).2.2.2.2.1 (parse_Text.fix n).2.2.2.2.2.1 (parse_Text.fix n).2.2.2.2.2.2.1 (parse_Text.fix n).2.2.2.2.2.2.2)
theorem parse_Text.fixc:∀ k,(∀ {G:Gd} {r:ByteArray} {a0:S24} {A1:Option Addr} {c2:Nat} (hr3:Rd G k24 A1 a0.f3) (hl4:a0.f3.length ≤ c2),(parse_Text.fix k).1 a0=some r → Fn Try.prog 9 G [] [.agg #[VI a0.f0,.string a0.f1,VI a0.f2,.slice A1 a0.f3.length c2]] (parse_Text.post G  r))∧(∀ {G:Gd} {r:(List ByteArray)} {a0_0:(List ByteArray)} {a1:S24} {b1:Nat} {A2:Option Addr} {c3:Nat} {A5:Option Addr} {c6:Nat} (hr7:Rd G k24 A5 a1.f3) (hl8:a1.f3.length ≤ c6),(parse_Text.fix k).2.1 a0_0 a1=some r → Fn Try.prog 20 G [Blk b1 [.slice A2 a0_0.length c3] 46,Row Kd.string 9 (.slice A2 a0_0.length c3) a0_0] [VP b1 0,.agg #[VI a1.f0,.string a1.f1,VI a1.f2,.slice A5 a1.f3.length c6]] (parse_writer_node.post G b1 A2 c3 A5 c6 a0_0 a1 r))∧(∀ {G:Gd} {r:(List ByteArray)} {a0_0:(List ByteArray)} {a1:S24} {b1:Nat} {A2:Option Addr} {c3:Nat} {A5:Option Addr} {c6:Nat} (hr7:Rd G k24 A5 a1.f3) (hl8:a1.f3.length ≤ c6),(parse_Text.fix k).2.2.1 a0_0 a1=some r → Fn Try.prog 33 G [Blk b1 [.slice A2 a0_0.length c3] 46,Row Kd.string 9 (.slice A2 a0_0.length c3) a0_0] [VP b1 0,.agg #[VI a1.f0,.string a1.f1,VI a1.f2,.slice A5 a1.f3.length c6]] (parse_writer_head.post G b1 A2 c3 A5 c6 a0_0 a1 r))∧(∀ {G:Gd} {r:(List ByteArray)} {a0_0:(List ByteArray)} {a1:ByteArray} {a2:S24} {a3:(List ByteArray)} {b1:Nat} {A2:Option Addr} {c3:Nat} {A5:Option Addr} {c6:Nat} {A9:Option Addr} {c10:Nat} (hr7:Rd G k24 A5 a2.f3) (hl8:a2.f3.length ≤ c6) (hr11:Rd G Kd.string A9 a3) (hl12:a3.length ≤ c10),(parse_Text.fix k).2.2.2.1 a0_0 a1 a2 a3=some r → Fn Try.prog 34 G [Blk b1 [.slice A2 a0_0.length c3] 46,Row Kd.string 9 (.slice A2 a0_0.length c3) a0_0] [VP b1 0,.string a1,.agg #[VI a2.f0,.string a2.f1,VI a2.f2,.slice A5 a2.f3.length c6],.slice A9 a3.length c10] (parse_writer_around.post G b1 A2 c3 A5 c6 A9 c10 a0_0 a1 a2 a3 r))∧(∀ {G:Gd} {r:(List ByteArray)} {a0_0:(List ByteArray)} {a1:S24} {b1:Nat} {A2:Option Addr} {c3:Nat} {A5:Option Addr} {c6:Nat} (hr7:Rd G k24 A5 a1.f3) (hl8:a1.f3.length ≤ c6),(parse_Text.fix k).2.2.2.2.1 a0_0 a1=some r → Fn Try.prog 35 G [Blk b1 [.slice A2 a0_0.length c3] 46,Row Kd.string 9 (.slice A2 a0_0.length c3) a0_0] [VP b1 0,.agg #[VI a1.f0,.string a1.f1,VI a1.f2,.slice A5 a1.f3.length c6]] (parse_writer_typ.post G b1 A2 c3 A5 c6 a0_0 a1 r))∧(∀ {G:Gd} {r:(List ByteArray)} {a0_0:(List ByteArray)} {a1:S24} {b1:Nat} {A2:Option Addr} {c3:Nat} {A5:Option Addr} {c6:Nat} (hr7:Rd G k24 A5 a1.f3) (hl8:a1.f3.length ≤ c6),(parse_Text.fix k).2.2.2.2.2.1 a0_0 a1=some r → Fn Try.prog 36 G [Blk b1 [.slice A2 a0_0.length c3] 46,Row Kd.string 9 (.slice A2 a0_0.length c3) a0_0] [VP b1 0,.agg #[VI a1.f0,.string a1.f1,VI a1.f2,.slice A5 a1.f3.length c6]] (parse_writer_statement.post G b1 A2 c3 A5 c6 a0_0 a1 r))∧(∀ {G:Gd} {r:(List ByteArray)} {a0_0:(List ByteArray)} {a1:S24} {b1:Nat} {A2:Option Addr} {c3:Nat} {A5:Option Addr} {c6:Nat} (hr7:Rd G k24 A5 a1.f3) (hl8:a1.f3.length ≤ c6),(parse_Text.fix k).2.2.2.2.2.2.1 a0_0 a1=some r → Fn Try.prog 37 G [Blk b1 [.slice A2 a0_0.length c3] 46,Row Kd.string 9 (.slice A2 a0_0.length c3) a0_0] [VP b1 0,.agg #[VI a1.f0,.string a1.f1,VI a1.f2,.slice A5 a1.f3.length c6]] (parse_writer_expr.post G b1 A2 c3 A5 c6 a0_0 a1 r))∧(∀ {G:Gd} {r:(List ByteArray)} {a0_0:(List ByteArray)} {a1:(List S24)} {a2:ByteArray} {b1:Nat} {A2:Option Addr} {c3:Nat} {A5:Option Addr} {c6:Nat} (hr7:Rd G k24 A5 a1) (hl8:a1.length ≤ c6),(parse_Text.fix k).2.2.2.2.2.2.2 a0_0 a1 a2=some r → Fn Try.prog 50 G [Blk b1 [.slice A2 a0_0.length c3] 46,Row Kd.string 9 (.slice A2 a0_0.length c3) a0_0] [VP b1 0,.slice A5 a1.length c6,.string a2] (parse_writer_list.post G b1 A2 c3 A5 c6 a0_0 a1 a2 r))∧True
 | 0=>⟨(by intros; contradiction),(by intros; contradiction),(by intros; contradiction),(by intros; contradiction),(by intros; contradiction),(by intros; contradiction),(by intros; contradiction),(by intros; contradiction),trivial⟩
 | k + 1=>by
  have ih:=parse_Text.fixc k
  exact ⟨(by
   intro G r a0 A1 c2 hr3 hl4 h
   exact parse_Text.step _ _ _ _ _ _ _ _ ih.1 ih.2.1 ih.2.2.1 ih.2.2.2.1 ih.2.2.2.2.1 ih.2.2.2.2.2.1 ih.2.2.2.2.2.2.1 ih.2.2.2.2.2.2.2.1 hr3 hl4 h),(by
   intro G r a0_0 a1 b1 A2 c3 A5 c6 hr7 hl8 h
   exact parse_writer_node.step _ _ _ _ _ _ _ _ ih.1 ih.2.1 ih.2.2.1 ih.2.2.2.1 ih.2.2.2.2.1 ih.2.2.2.2.2.1 ih.2.2.2.2.2.2.1 ih.2.2.2.2.2.2.2.1 hr7 hl8 h),(by
   intro G r a0_0 a1 b1 A2 c3 A5 c6 hr7 hl8 h
   exact parse_writer_head.step _ _ _ _ _ _ _ _ ih.1 ih.2.1 ih.2.2.1 ih.2.2.2.1 ih.2.2.2.2.1 ih.2.2.2.2.2.1 ih.2.2.2.2.2.2.1 ih.2.2.2.2.2.2.2.1 hr7 hl8 h),(by
   intro G r a0_0 a1 a2 a3 b1 A2 c3 A5 c6 A9 c10 hr7 hl8 hr11 hl12 h
   exact parse_writer_around.step _ _ _ _ _ _ _ _ ih.1 ih.2.1 ih.2.2.1 ih.2.2.2.1 ih.2.2.2.2.1 ih.2.2.2.2.2.1 ih.2.2.2.2.2.2.1 ih.2.2.2.2.2.2.2.1 hr7 hl8 hr11 hl12 h),(by
   intro G r a0_0 a1 b1 A2 c3 A5 c6 hr7 hl8 h
   exact parse_writer_typ.step _ _ _ _ _ _ _ _ ih.1 ih.2.1 ih.2.2.1 ih.2.2.2.1 ih.2.2.2.2.1 ih.2.2.2.2.2.1 ih.2.2.2.2.2.2.1 ih.2.2.2.2.2.2.2.1 hr7 hl8 h),(by
   intro G r a0_0 a1 b1 A2 c3 A5 c6 hr7 hl8 h
   exact parse_writer_statement.step _ _ _ _ _ _ _ _ ih.1 ih.2.1 ih.2.2.1 ih.2.2.2.1 ih.2.2.2.2.1 ih.2.2.2.2.2.1 ih.2.2.2.2.2.2.1 ih.2.2.2.2.2.2.2.1 hr7 hl8 h),(by
   intro G r a0_0 a1 b1 A2 c3 A5 c6 hr7 hl8 h
   exact parse_writer_expr.step _ _ _ _ _ _ _ _ ih.1 ih.2.1 ih.2.2.1 ih.2.2.2.1 ih.2.2.2.2.1 ih.2.2.2.2.2.1 ih.2.2.2.2.2.2.1 ih.2.2.2.2.2.2.2.1 hr7 hl8 h),(by
   intro G r a0_0 a1 a2 b1 A2 c3 A5 c6 hr7 hl8 h
   exact parse_writer_list.step _ _ _ _ _ _ _ _ ih.1 ih.2.1 ih.2.2.1 ih.2.2.2.1 ih.2.2.2.2.1 ih.2.2.2.2.2.1 ih.2.2.2.2.2.2.1 ih.2.2.2.2.2.2.2.1 hr7 hl8 h),trivial⟩
def parse_Text.f (a0:S24):Option ByteArray:=(parse_Text.fix 100000).1 a0
theorem parse_Text.calls {G:Gd} {r:ByteArray} {a0:S24} {A1:Option Addr} {c2:Nat} (hr3:Rd G k24 A1 a0.f3) (hl4:a0.f3.length ≤ c2) (h:parse_Text.f a0=some r):Fn Try.prog 9 G [] [.agg #[VI a0.f0,.string a0.f1,VI a0.f2,.slice A1 a0.f3.length c2]] (parse_Text.post G  r):=(parse_Text.fixc 100000).1 hr3 hl4 h
def parse_writer_node.f (a0_0:(List ByteArray)) (a1:S24):Option (List ByteArray):=(parse_Text.fix 100000).2.1 a0_0 a1
theorem parse_writer_node.calls {G:Gd} {r:(List ByteArray)} {a0_0:(List ByteArray)} {a1:S24} {b1:Nat} {A2:Option Addr} {c3:Nat} {A5:Option Addr} {c6:Nat} (hr7:Rd G k24 A5 a1.f3) (hl8:a1.f3.length ≤ c6) (h:parse_writer_node.f a0_0 a1=some r):Fn Try.prog 20 G [Blk b1 [.slice A2 a0_0.length c3] 46,Row Kd.string 9 (.slice A2 a0_0.length c3) a0_0] [VP b1 0,.agg #[VI a1.f0,.string a1.f1,VI a1.f2,.slice A5 a1.f3.length c6]] (parse_writer_node.post G b1 A2 c3 A5 c6 a0_0 a1 r):=(parse_Text.fixc 100000).2.1 hr7 hl8 h
def parse_writer_head.f (a0_0:(List ByteArray)) (a1:S24):Option (List ByteArray):=(parse_Text.fix 100000).2.2.1 a0_0 a1
theorem parse_writer_head.calls {G:Gd} {r:(List ByteArray)} {a0_0:(List ByteArray)} {a1:S24} {b1:Nat} {A2:Option Addr} {c3:Nat} {A5:Option Addr} {c6:Nat} (hr7:Rd G k24 A5 a1.f3) (hl8:a1.f3.length ≤ c6) (h:parse_writer_head.f a0_0 a1=some r):Fn Try.prog 33 G [Blk b1 [.slice A2 a0_0.length c3] 46,Row Kd.string 9 (.slice A2 a0_0.length c3) a0_0] [VP b1 0,.agg #[VI a1.f0,.string a1.f1,VI a1.f2,.slice A5 a1.f3.length c6]] (parse_writer_head.post G b1 A2 c3 A5 c6 a0_0 a1 r):=(parse_Text.fixc 100000).2.2.1 hr7 hl8 h
def parse_writer_around.f (a0_0:(List ByteArray)) (a1:ByteArray) (a2:S24) (a3:(List ByteArray)):Option (List ByteArray):=(parse_Text.fix 100000).2.2.2.1 a0_0 a1 a2 a3
theorem parse_writer_around.calls {G:Gd} {r:(List ByteArray)} {a0_0:(List ByteArray)} {a1:ByteArray} {a2:S24} {a3:(List ByteArray)} {b1:Nat} {A2:Option Addr} {c3:Nat} {A5:Option Addr} {c6:Nat} {A9:Option Addr} {c10:Nat} (hr7:Rd G k24 A5 a2.f3) (hl8:a2.f3.length ≤ c6) (hr11:Rd G Kd.string A9 a3) (hl12:a3.length ≤ c10) (h:parse_writer_around.f a0_0 a1 a2 a3=some r):Fn Try.prog 34 G [Blk b1 [.slice A2 a0_0.length c3] 46,Row Kd.string 9 (.slice A2 a0_0.length c3) a0_0] [VP b1 0,.string a1,.agg #[VI a2.f0,.string a2.f1,VI a2.f2,.slice A5 a2.f3.length c6],.slice A9 a3.length c10] (parse_writer_around.post G b1 A2 c3 A5 c6 A9 c10 a0_0 a1 a2 a3 r):=(parse_Text.fixc 100000).2.2.2.1 hr7 hl8 hr11 hl12 h
def parse_writer_typ.f (a0_0:(List ByteArray)) (a1:S24):Option (List ByteArray):=(parse_Text.fix 100000).2.2.2.2.1 a0_0 a1
theorem parse_writer_typ.calls {G:Gd} {r:(List ByteArray)} {a0_0:(List ByteArray)} {a1:S24} {b1:Nat} {A2:Option Addr} {c3:Nat} {A5:Option Addr} {c6:Nat} (hr7:Rd G k24 A5 a1.f3) (hl8:a1.f3.length ≤ c6) (h:parse_writer_typ.f a0_0 a1=some r):Fn Try.prog 35 G [Blk b1 [.slice A2 a0_0.length c3] 46,Row Kd.string 9 (.slice A2 a0_0.length c3) a0_0] [VP b1 0,.agg #[VI a1.f0,.string a1.f1,VI a1.f2,.slice A5 a1.f3.length c6]] (parse_writer_typ.post G b1 A2 c3 A5 c6 a0_0 a1 r):=(parse_Text.fixc 100000).2.2.2.2.1 hr7 hl8 h
def parse_writer_statement.f (a0_0:(List ByteArray)) (a1:S24):Option (List ByteArray):=(parse_Text.fix 100000).2.2.2.2.2.1 a0_0 a1
theorem parse_writer_statement.calls {G:Gd} {r:(List ByteArray)} {a0_0:(List ByteArray)} {a1:S24} {b1:Nat} {A2:Option Addr} {c3:Nat} {A5:Option Addr} {c6:Nat} (hr7:Rd G k24 A5 a1.f3) (hl8:a1.f3.length ≤ c6) (h:parse_writer_statement.f a0_0 a1=some r):Fn Try.prog 36 G [Blk b1 [.slice A2 a0_0.length c3] 46,Row Kd.string 9 (.slice A2 a0_0.length c3) a0_0] [VP b1 0,.agg #[VI a1.f0,.string a1.f1,VI a1.f2,.slice A5 a1.f3.length c6]] (parse_writer_statement.post G b1 A2 c3 A5 c6 a0_0 a1 r):=(parse_Text.fixc 100000).2.2.2.2.2.1 hr7 hl8 h
def parse_writer_expr.f (a0_0:(List ByteArray)) (a1:S24):Option (List ByteArray):=(parse_Text.fix 100000).2.2.2.2.2.2.1 a0_0 a1
theorem parse_writer_expr.calls {G:Gd} {r:(List ByteArray)} {a0_0:(List ByteArray)} {a1:S24} {b1:Nat} {A2:Option Addr} {c3:Nat} {A5:Option Addr} {c6:Nat} (hr7:Rd G k24 A5 a1.f3) (hl8:a1.f3.length ≤ c6) (h:parse_writer_expr.f a0_0 a1=some r):Fn Try.prog 37 G [Blk b1 [.slice A2 a0_0.length c3] 46,Row Kd.string 9 (.slice A2 a0_0.length c3) a0_0] [VP b1 0,.agg #[VI a1.f0,.string a1.f1,VI a1.f2,.slice A5 a1.f3.length c6]] (parse_writer_expr.post G b1 A2 c3 A5 c6 a0_0 a1 r):=(parse_Text.fixc 100000).2.2.2.2.2.2.1 hr7 hl8 h
def parse_writer_list.f (a0_0:(List ByteArray)) (a1:(List S24)) (a2:ByteArray):Option (List ByteArray):=(parse_Text.fix 100000).2.2.2.2.2.2.2 a0_0 a1 a2
theorem parse_writer_list.calls {G:Gd} {r:(List ByteArray)} {a0_0:(List ByteArray)} {a1:(List S24)} {a2:ByteArray} {b1:Nat} {A2:Option Addr} {c3:Nat} {A5:Option Addr} {c6:Nat} (hr7:Rd G k24 A5 a1) (hl8:a1.length ≤ c6) (h:parse_writer_list.f a0_0 a1 a2=some r):Fn Try.prog 50 G [Blk b1 [.slice A2 a0_0.length c3] 46,Row Kd.string 9 (.slice A2 a0_0.length c3) a0_0] [VP b1 0,.slice A5 a1.length c6,.string a2] (parse_writer_list.post G b1 A2 c3 A5 c6 a0_0 a1 a2 r):=(parse_Text.fixc 100000).2.2.2.2.2.2.2.1 hr7 hl8 h
end Go.Proofs.Ythlhmoocgjddpaa.Sy
set_option linter.unusedVariables false
set_option linter.unusedSimpArgs false
namespace Go.Proofs.Ythlhmoocgjddpaa.Sy
open Go Go.RowKit Go.Proofs.YthlhmoocgjddpaaW.PrintWords
theorem wt {n : Int} (h0 : -9223372036854775808 ≤ n) (h1 : n ≤ 9223372036854775807) : IntKind.i64.wrap n = n := by
  rw [IntKind.wrap_i64]; omega
/-- Empty texts are none. -/
def ws (b : ByteArray) : List ByteArray := if b.data.toList = [] then [] else [b]
def wl (l : List ByteArray) : List ByteArray := l.flatMap ws
theorem ws_len (b : ByteArray) : (ws b).length ≤ 1 := by unfold ws; split <;> simp
theorem wl_len (l : List ByteArray) : (wl l).length ≤ l.length := by
  induction l with
  | nil => simp [wl]
  | cons b l ih => have := ws_len b; simp [wl] at ih ⊢; omega
theorem at_nth {α : Type} {l : List α} {i : Nat} {y : α} (h : l[i]? = some y) : at? l (i : Int) = some y := by
  unfold at?; rw [if_pos (by omega)]; simpa using h
theorem drop_cases {α : Type} {l ys : List α} {i : Nat} (h : l.drop i = ys) : (ys = [] → ¬ ((i : Int) < (l.length : Int))) ∧ ∀ y r, ys = y :: r → (i : Int) < (l.length : Int) ∧ at? l (i : Int) = some y ∧ l.drop (i + 1) = r := by
  refine ⟨fun hy => ?_, fun y r hy => ?_⟩
  · subst hy; have := List.drop_eq_nil_iff.1 h; omega
  · subst hy
    have hl : i < l.length := by
      apply Classical.byContradiction; intro hn
      rw [List.drop_eq_nil_of_le (by omega)] at h; cases h
    rw [List.drop_eq_getElem_cons hl] at h
    injection h with h1 h2
    exact ⟨by omega, at_nth (by rw [List.getElem?_eq_getElem hl, h1]), h2⟩
abbrev MX : Nat := 1000000000000
theorem put_f {acc l : List ByteArray} (h : acc.length + l.length ≤ MX) : parse_writer_put.f acc l = some (acc ++ wl l) := by
  have loop : ∀ (ys : List ByteArray) (n i : Nat) (acc : List ByteArray), l.drop i = ys → ys.length < n → acc.length + ys.length ≤ MX → i + ys.length ≤ MX →
      parse_writer_put.l0 l n i acc = some (acc ++ wl ys) := by
    intro ys
    induction ys with
    | nil =>
      intro n i acc hd hn _ _
      obtain ⟨n, rfl⟩ : ∃ m, n = m + 1 := ⟨n - 1, by simp at hn; omega⟩
      rw [parse_writer_put.l0, if_neg ((drop_cases hd).1 rfl)]; simp [wl]
    | cons y ys ih =>
      intro n i acc hd hn ha hi
      obtain ⟨n, rfl⟩ : ∃ m, n = m + 1 := ⟨n - 1, by simp at hn; omega⟩
      obtain ⟨h1, h2, h3⟩ := (drop_cases hd).2 y ys rfl
      simp only [List.length_cons] at hn ha hi
      have e1 : IntKind.i64.wrap ((i : Int) + 1) = ((i + 1 : Nat) : Int) := by rw [wt (by omega) (by unfold MX at hi; omega)]; omega
      rw [parse_writer_put.l0, if_pos h1, h2, Option.bind_some]
      dsimp only [jn]
      rw [e1]
      by_cases hy : y.data.toList = []
      · rw [if_neg (by simp [hy]), ih n (i + 1) acc h3 (by omega) (by omega) (by omega)]
        simp [wl, ws, hy]
      · rw [if_pos (by rw [show (y.data.toList == (⟨#[]⟩ : ByteArray).data.toList) = false from beq_eq_false_iff_ne.2 hy]; rfl), if_pos (by unfold MX at ha; omega), ih n (i + 1) (acc ++ [y]) h3 (by omega) (by simp; omega) (by omega)]
        simp [wl, ws, hy]
  have := loop l (l.length + 1) 0 acc rfl (by omega) h (by omega)
  unfold parse_writer_put.f
  rw [show ((0 : Nat) : Int) = 0 from rfl] at this
  rw [this]; rfl
/-! #### The parts of a node, those of its kids given -/
def lsp (sep : ByteArray) (p : S24 → List ByteArray) : List S24 → List ByteArray
  | [] => []
  | [y] => p y
  | y :: z :: r => p y ++ (wl [sep] ++ lsp sep p (z :: r))
def kd (p : S24 → List ByteArray) (x : S24) (i : Nat) : List ByteArray := ((x.f3[i]?).map p).getD []
def aro (a : ByteArray) (y : List ByteArray) (l : List ByteArray) : List ByteArray := wl [a] ++ (y ++ wl l)
def tyP (p : S24 → List ByteArray) (x : S24) : List ByteArray :=
  if x.f0 = 5 then wl [(⟨#[105, 110, 116]⟩ : ByteArray)]
  else if x.f0 = 6 then aro ((⟨#[42]⟩ : ByteArray)) (kd p x 0) []
  else if x.f0 = 7 then wl [(⟨#[91]⟩ : ByteArray), x.f1] ++ aro ((⟨#[93]⟩ : ByteArray)) (kd p x 0) []
  else if x.f0 = 8 then wl [(⟨#[40]⟩ : ByteArray)] ++ (lsp ((⟨#[44]⟩ : ByteArray)) p x.f3 ++ wl [(⟨#[41]⟩ : ByteArray)])
  else []
def stP (p : S24 → List ByteArray) (x : S24) : List ByteArray :=
  if x.f0 = 9 then wl [(⟨#[123]⟩ : ByteArray)] ++ (lsp ((⟨#[]⟩ : ByteArray)) p x.f3 ++ wl [(⟨#[125]⟩ : ByteArray)])
  else if x.f0 = 10 then wl [(⟨#[118, 97, 114]⟩ : ByteArray)] ++ aro x.f1 (kd p x 0) [(⟨#[59]⟩ : ByteArray)]
  else if x.f0 = 11 then aro ((⟨#[]⟩ : ByteArray)) (kd p x 0) [(⟨#[61]⟩ : ByteArray)] ++ aro ((⟨#[]⟩ : ByteArray)) (kd p x 1) [(⟨#[59]⟩ : ByteArray)]
  else if x.f0 = 12 then wl [(⟨#[105, 102]⟩ : ByteArray)] ++ (lsp ((⟨#[]⟩ : ByteArray)) p (x.f3.take 2) ++ (if 2 < x.f3.length then aro ((⟨#[101, 108, 115, 101]⟩ : ByteArray)) (kd p x 2) [] else []))
  else if x.f0 = 13 then wl [(⟨#[102, 111, 114]⟩ : ByteArray)] ++ lsp ((⟨#[]⟩ : ByteArray)) p (x.f3.take 2)
  else if x.f0 = 14 then wl [(⟨#[114, 101, 116, 117, 114, 110]⟩ : ByteArray)] ++ (lsp ((⟨#[]⟩ : ByteArray)) p (x.f3.take 1) ++ wl [(⟨#[59]⟩ : ByteArray)])
  else if x.f0 = 15 then aro ((⟨#[112, 114, 105, 110, 116]⟩ : ByteArray)) (kd p x 0) [(⟨#[59]⟩ : ByteArray)]
  else if x.f0 = 16 then aro ((⟨#[]⟩ : ByteArray)) (kd p x 0) [(⟨#[59]⟩ : ByteArray)]
  else []
def exP (p : S24 → List ByteArray) (x : S24) : List ByteArray :=
  if x.f0 = 17 ∨ x.f0 = 18 then wl [x.f1]
  else if x.f0 = 19 then aro ((⟨#[40]⟩ : ByteArray)) (kd p x 0) [x.f1] ++ aro ((⟨#[]⟩ : ByteArray)) (kd p x 1) [(⟨#[41]⟩ : ByteArray)]
  else if x.f0 = 20 then wl [(⟨#[40]⟩ : ByteArray)] ++ aro ((⟨#[45]⟩ : ByteArray)) (kd p x 0) [(⟨#[41]⟩ : ByteArray)]
  else if x.f0 = 21 then wl [(⟨#[40]⟩ : ByteArray)] ++ aro ((⟨#[42]⟩ : ByteArray)) (kd p x 0) [(⟨#[41]⟩ : ByteArray)]
  else if x.f0 = 22 then wl [(⟨#[40]⟩ : ByteArray)] ++ aro ((⟨#[38]⟩ : ByteArray)) (kd p x 0) [(⟨#[41]⟩ : ByteArray)]
  else if x.f0 = 23 then aro ((⟨#[]⟩ : ByteArray)) (kd p x 0) [(⟨#[91]⟩ : ByteArray)] ++ aro ((⟨#[]⟩ : ByteArray)) (kd p x 1) [(⟨#[93]⟩ : ByteArray)]
  else if x.f0 = 24 then aro ((⟨#[]⟩ : ByteArray)) (kd p x 0) [(⟨#[46]⟩ : ByteArray), x.f1]
  else if x.f0 = 25 then wl [x.f1, (⟨#[40]⟩ : ByteArray)] ++ (lsp ((⟨#[44]⟩ : ByteArray)) p x.f3 ++ wl [(⟨#[41]⟩ : ByteArray)])
  else if x.f0 = 26 then wl [(⟨#[110, 101, 119]⟩ : ByteArray), (⟨#[40]⟩ : ByteArray)] ++ aro ((⟨#[]⟩ : ByteArray)) (kd p x 0) [(⟨#[41]⟩ : ByteArray)]
  else if x.f0 = 27 then wl [(⟨#[114, 101, 97, 100]⟩ : ByteArray)]
  else []
def jb (l : List ByteArray) : ByteArray := ⟨(Lib.join (l.map (·.data.toList)) [32]).toArray⟩
def pg : List ByteArray → ByteArray
  | [] => ⟨#[]⟩
  | t :: r => ⟨(t.data.toList ++ 10 :: (pg r).data.toList).toArray⟩
def lst (k : Int) : Int := (parse_least.f k).getD 0
theorem least_f (k : Int) : parse_least.f k = some (lst k) := by
  have : ∃ b, parse_least.f k = some b := by
    unfold parse_least.f
    simp only [jn]
    have ei : ∀ {c : Prop} [Decidable c] {x y : Option Int}, (∃ b, x = some b) → (∃ b, y = some b) → ∃ b, (if c then x else y) = some b := by
      intro c _ x y hx hy; split; exact hx; exact hy
    repeat' (first | apply ei | exact ⟨_, rfl⟩)
  obtain ⟨b, hb⟩ := this
  unfold lst; rw [hb]; rfl
def ndP (p : S24 → List ByteArray) (x : S24) : List ByteArray :=
  if lst x.f0 < 0 ∨ (x.f3.length : Int) < lst x.f0 then wl [(⟨#[63]⟩ : ByteArray)]
  else if x.f0 = 1 then wl [pg (x.f3.map fun y => jb (p y))]
  else if x.f0 = 2 then wl [(⟨#[102, 117, 110, 99]⟩ : ByteArray), x.f1, (⟨#[40]⟩ : ByteArray)] ++ (lsp ((⟨#[44]⟩ : ByteArray)) p (x.f3.take (x.f3.length - 2)) ++ (wl [(⟨#[41]⟩ : ByteArray)] ++ lsp ((⟨#[]⟩ : ByteArray)) p (x.f3.drop (x.f3.length - 2))))
  else if x.f0 = 3 then aro x.f1 (kd p x 0) []
  else if x.f0 < 9 then tyP p x
  else if x.f0 < 17 then stP p x
  else exP p x
def pt : Nat → S24 → List ByteArray
  | 0, _ => []
  | k + 1, x => ndP (pt k) x
section
variable {p : S24 → List ByteArray} {c : S24 → Nat} {x : S24}
/-- The writer's own rounds, for some nodes. -/
def NodeOk (rec : List ByteArray → S24 → Option (List ByteArray)) (p : S24 → List ByteArray) (c : S24 → Nat) (ys : List S24) : Prop :=
  ∀ y ∈ ys, (p y).length + 4 ≤ c y ∧ ∀ acc : List ByteArray, acc.length + c y ≤ MX → rec acc y = some (acc ++ p y)
def sm (c : S24 → Nat) (l : List S24) : Nat := (l.map c).sum
theorem sm_take (c : S24 → Nat) (l : List S24) (i : Nat) : sm c (l.take i) + sm c (l.drop i) = sm c l := by
  unfold sm
  rw [← List.sum_append, ← List.map_append, List.take_append_drop]
theorem NodeOk.sub {rec : List ByteArray → S24 → Option (List ByteArray)} {ys zs : List S24} (h : NodeOk rec p c ys) (hs : ∀ y ∈ zs, y ∈ ys) : NodeOk rec p c zs := fun y hy => h y (hs y hy)
theorem lsp_len {sep : ByteArray} : ∀ {ys : List S24}, (∀ y ∈ ys, (p y).length + 4 ≤ c y) → (lsp sep p ys).length ≤ sm c ys := by
  intro ys
  induction ys with
  | nil => intro _; simp [lsp]
  | cons y r ih =>
    intro h
    have h1 := h y List.mem_cons_self
    have ih := ih (fun z hz => h z (List.mem_cons_of_mem _ hz))
    cases r with
    | nil => simp [lsp, sm]; omega
    | cons z r =>
      have := wl_len [sep]
      simp only [lsp, List.length_append, sm, List.map_cons, List.sum_cons] at ih ⊢
      simp at this
      omega
theorem list_f {rec : List ByteArray → S24 → Option (List ByteArray)} {r1 : S24 → Option ByteArray} {r3 : List ByteArray → S24 → Option (List ByteArray)} {r4 : List ByteArray → ByteArray → S24 → List ByteArray → Option (List ByteArray)} {r5 r6 r7 : List ByteArray → S24 → Option (List ByteArray)} {r8 : List ByteArray → List S24 → ByteArray → Option (List ByteArray)} {sep : ByteArray} {l : List S24} (hN : NodeOk rec p c l) {acc : List ByteArray} (ha : acc.length + sm c l + l.length ≤ MX) :
    parse_writer_list.g r1 rec r3 r4 r5 r6 r7 r8 acc l sep = some (acc ++ lsp sep p l) := by
  have loop : ∀ (ys : List S24) (n i : Nat) (acc : List ByteArray), l.drop i = ys → ys.length < n → NodeOk rec p c ys → acc.length + sm c ys + ys.length ≤ MX → i + ys.length ≤ MX →
      parse_writer_list.l0 rec l sep n i acc = some (acc ++ (if ys = [] then [] else if 0 < i then wl [sep] ++ lsp sep p ys else lsp sep p ys)) := by
    intro ys
    induction ys with
    | nil =>
      intro n i acc hd hn _ _ _
      obtain ⟨n, rfl⟩ : ∃ m, n = m + 1 := ⟨n - 1, by simp at hn; omega⟩
      rw [parse_writer_list.l0, if_neg ((drop_cases hd).1 rfl)]; simp
    | cons y ys ih =>
      intro n i acc hd hn hN ha hi
      obtain ⟨n, rfl⟩ : ∃ m, n = m + 1 := ⟨n - 1, by simp at hn; omega⟩
      obtain ⟨h1, h2, h3⟩ := (drop_cases hd).2 y ys rfl
      simp only [List.length_cons, sm, List.map_cons, List.sum_cons] at hn ha hi
      have e1 : IntKind.i64.wrap ((i : Int) + 1) = ((i + 1 : Nat) : Int) := by rw [wt (by omega) (by unfold MX at hi; omega)]; omega
      obtain ⟨k1, k2⟩ := hN y List.mem_cons_self
      have hw := wl_len [sep]
      simp only [List.length_cons, List.length_nil] at hw
      have hN' : NodeOk rec p c ys := hN.sub fun z hz => List.mem_cons_of_mem _ hz
      rw [parse_writer_list.l0, if_pos h1, h2, Option.bind_some]
      dsimp only [jn]
      rw [e1]
      have fin : ∀ acc2 : List ByteArray, acc2.length ≤ acc.length + 1 → ((rec acc2 y).bind fun q => parse_writer_list.l0 rec l sep n ((i + 1 : Nat) : Int) q) = some (acc2 ++ lsp sep p (y :: ys)) := by
        intro acc2 h4
        rw [k2 acc2 (by omega), Option.bind_some, ih n (i + 1) _ h3 (by omega) hN' (by simp only [List.length_append]; unfold sm; omega) (by omega)]
        cases ys with
        | nil => simp [lsp]
        | cons z r => simp [lsp]
      by_cases h0 : 0 < (i : Int)
      · rw [if_pos h0, put_f (by simp; omega), Option.bind_some, fin _ (by simp only [List.length_append]; omega)]
        have : 0 < i := by omega
        simp [this]
      · rw [if_neg h0, fin _ (by omega)]
        have : ¬ 0 < i := by omega
        simp [this]
  have h2 := loop l (l.length + 1) 0 acc rfl (by omega) hN ha (by omega)
  rw [show ((0 : Nat) : Int) = 0 from rfl] at h2
  unfold parse_writer_list.g
  rw [h2, Option.bind_some]
  cases l <;> simp [lsp]
end
end Go.Proofs.Ythlhmoocgjddpaa.Sy
set_option linter.unusedVariables false
set_option linter.unusedSimpArgs false
namespace Go.Proofs.Ythlhmoocgjddpaa.Sy
open Go Go.RowKit Go.Proofs.YthlhmoocgjddpaaW.PrintWords
abbrev N1 := S24 → Option ByteArray
abbrev N2 := List ByteArray → S24 → Option (List ByteArray)
abbrev N4 := List ByteArray → ByteArray → S24 → List ByteArray → Option (List ByteArray)
abbrev N8 := List ByteArray → List S24 → ByteArray → Option (List ByteArray)
section
variable {p : S24 → List ByteArray} {c : S24 → Nat} {x : S24}
def AroOk (rec : N4) (p : S24 → List ByteArray) (c : S24 → Nat) (ys : List S24) : Prop :=
  ∀ y ∈ ys, ∀ (acc : List ByteArray) (a : ByteArray) (l : List ByteArray), acc.length + c y + l.length + 1 ≤ MX → rec acc a y l = some (acc ++ aro a (p y) l)
def LisOk (rec : N8) (p : S24 → List ByteArray) (c : S24 → Nat) (ys : List S24) : Prop :=
  ∀ (acc : List ByteArray) (l : List S24) (sep : ByteArray), (∀ y ∈ l, y ∈ ys) → acc.length + sm c l + l.length ≤ MX → rec acc l sep = some (acc ++ lsp sep p l)
theorem aro_len {y : S24} {a : ByteArray} {l : List ByteArray} (h : (p y).length + 4 ≤ c y) : (aro a (p y) l).length ≤ c y + l.length := by
  have := wl_len [a]
  have := wl_len l
  simp only [aro, List.length_append, List.length_cons, List.length_nil] at *
  omega
theorem around_g {r1 : N1} {rec r3 : N2} {r4 : N4} {r5 r6 r7 : N2} {r8 : N8} {ys : List S24} (hN : NodeOk rec p c ys) : AroOk (parse_writer_around.g r1 rec r3 r4 r5 r6 r7 r8) p c ys := by
  intro y hy acc a l h
  obtain ⟨h1, h2⟩ := hN y hy
  have h3 := wl_len [a]
  simp only [List.length_cons, List.length_nil] at h3
  unfold parse_writer_around.g
  rw [put_f (by simp; omega), Option.bind_some, h2 _ (by simp only [List.length_append]; omega), Option.bind_some, put_f (by simp only [List.length_append]; omega), Option.bind_some]
  simp only [aro, List.append_assoc]
theorem list_g {r1 : N1} {rec r3 : N2} {r4 : N4} {r5 r6 r7 : N2} {r8 : N8} {ys : List S24} (hN : NodeOk rec p c ys) : LisOk (parse_writer_list.g r1 rec r3 r4 r5 r6 r7 r8) p c ys := by
  intro acc l sep hs ha
  exact list_f (hN.sub hs) ha
theorem kid0 (h : 1 ≤ x.f3.length) : ∃ y, y ∈ x.f3 ∧ at? x.f3 0 = some y ∧ kd p x 0 = p y ∧ c y ≤ sm c x.f3 := by
  obtain ⟨f0, f1, f2, ks⟩ := x
  cases ks with
  | nil => simp at h
  | cons y r => exact ⟨y, List.mem_cons_self, rfl, rfl, by simp [sm]⟩
theorem kid01 (h : 2 ≤ x.f3.length) : ∃ y z, y ∈ x.f3 ∧ z ∈ x.f3 ∧ at? x.f3 0 = some y ∧ at? x.f3 1 = some z ∧ kd p x 0 = p y ∧ kd p x 1 = p z ∧ c y + c z ≤ sm c x.f3 := by
  obtain ⟨f0, f1, f2, ks⟩ := x
  rcases ks with _ | ⟨y, _ | ⟨z, r⟩⟩
  · simp at h
  · simp at h
  · exact ⟨y, z, List.mem_cons_self, List.mem_cons_of_mem _ List.mem_cons_self, rfl, rfl, rfl, rfl, by simp [sm]⟩
theorem kid2 (h : 3 ≤ x.f3.length) : ∃ y, y ∈ x.f3 ∧ at? x.f3 2 = some y ∧ kd p x 2 = p y ∧ sm c (x.f3.take 2) + c y ≤ sm c x.f3 := by
  obtain ⟨f0, f1, f2, ks⟩ := x
  rcases ks with _ | ⟨y, _ | ⟨z, _ | ⟨u, r⟩⟩⟩
  · simp at h
  · simp at h
  · simp at h
  · exact ⟨u, by simp, rfl, rfl, by simp [sm]; omega⟩
macro "lenT" : tactic => `(tactic| first | omega | (simp only [List.length_append, List.length_cons, List.length_nil]; omega))
theorem cut_take {ks : List S24} (h : 2 ≤ ks.length) : cut? ks (0 : Int) 2 = some (ks.take 2) := by
  unfold cut?; rw [if_pos ⟨by omega, by omega, by omega⟩]; rfl
theorem cut_min {ks : List S24} : cut? ks (0 : Int) (if (ks.length : Int) < 1 then (ks.length : Int) else 1) = some (ks.take 1) := by
  unfold cut?
  by_cases h : (ks.length : Int) < 1
  · rw [if_pos h, if_pos ⟨by omega, by omega, by omega⟩]
    have : ks = [] := List.length_eq_zero_iff.1 (by omega)
    subst this; rfl
  · rw [if_neg h, if_pos ⟨by omega, by omega, by omega⟩]; rfl
theorem typ_g' {r1 : N1} {r2 r3 : N2} {r4 : N4} {r5 r6 r7 : N2} {r8 : N8} (hA : AroOk r4 p c x.f3) (hL : LisOk r8 p c x.f3) (hN : ∀ y ∈ x.f3, (p y).length + 4 ≤ c y) (hk : lst x.f0 ≤ x.f3.length) {acc : List ByteArray} (ha : acc.length + 64 + sm c x.f3 + x.f3.length ≤ MX) :
    parse_writer_typ.g r1 r2 r3 r4 r5 r6 r7 r8 acc x = some (acc ++ tyP p x) ∧ (tyP p x).length ≤ 40 + sm c x.f3 := by
  unfold parse_writer_typ.g tyP
  by_cases h5 : x.f0 = 5
  · have q1 := wl_len [(⟨#[105, 110, 116]⟩ : ByteArray)]
    simp only [List.length_cons, List.length_nil] at q1
    rw [if_pos h5, if_pos h5, put_f (by lenT), Option.bind_some]
    exact ⟨by first | rfl | simp only [List.append_assoc], by lenT⟩
  rw [if_neg h5, if_neg h5]
  by_cases h6 : x.f0 = 6
  · rw [h6] at hk
    have hk1 : 1 ≤ x.f3.length := by
      rw [show lst 6 = 1 from by decide] at hk; omega
    obtain ⟨y0, m0, a0, e0, b0⟩ := kid0 (p := p) (c := c) (x := x) hk1
    have q1 := aro_len (a := (⟨#[42]⟩ : ByteArray)) (l := []) (hN y0 m0)
    simp only [List.length_cons, List.length_nil] at q1
    rw [if_pos h6, if_pos h6, a0, Option.bind_some, hA y0 m0 _ _ _ (by lenT), Option.bind_some]
    simp only [e0]
    exact ⟨by first | rfl | simp only [List.append_assoc], by lenT⟩
  rw [if_neg h6, if_neg h6]
  by_cases h7 : x.f0 = 7
  · rw [h7] at hk
    have hk1 : 1 ≤ x.f3.length := by
      rw [show lst 7 = 1 from by decide] at hk; omega
    obtain ⟨y0, m0, a0, e0, b0⟩ := kid0 (p := p) (c := c) (x := x) hk1
    have q1 := wl_len [(⟨#[91]⟩ : ByteArray), x.f1]
    simp only [List.length_cons, List.length_nil] at q1
    have q2 := aro_len (a := (⟨#[93]⟩ : ByteArray)) (l := []) (hN y0 m0)
    simp only [List.length_cons, List.length_nil] at q2
    rw [if_pos h7, if_pos h7, put_f (by lenT), Option.bind_some, a0, Option.bind_some, hA y0 m0 _ _ _ (by lenT), Option.bind_some]
    simp only [e0]
    exact ⟨by first | rfl | simp only [List.append_assoc], by lenT⟩
  rw [if_neg h7, if_neg h7]
  by_cases h8 : x.f0 = 8
  · have q1 := wl_len [(⟨#[40]⟩ : ByteArray)]
    simp only [List.length_cons, List.length_nil] at q1
    have q2 : (lsp (⟨#[44]⟩ : ByteArray) p x.f3).length ≤ sm c x.f3 := lsp_len hN
    have q3 := wl_len [(⟨#[41]⟩ : ByteArray)]
    simp only [List.length_cons, List.length_nil] at q3
    rw [if_pos h8, if_pos h8, put_f (by lenT), Option.bind_some, hL _ _ _ (fun _ h => h) (by lenT), Option.bind_some, put_f (by lenT), Option.bind_some]
    exact ⟨by first | rfl | simp only [List.append_assoc], by lenT⟩
  rw [if_neg h8, if_neg h8]
  exact ⟨by simp, by simp⟩
theorem statement_g' {r1 : N1} {r2 r3 : N2} {r4 : N4} {r5 r6 r7 : N2} {r8 : N8} (hA : AroOk r4 p c x.f3) (hL : LisOk r8 p c x.f3) (hN : ∀ y ∈ x.f3, (p y).length + 4 ≤ c y) (hk : lst x.f0 ≤ x.f3.length) {acc : List ByteArray} (ha : acc.length + 64 + sm c x.f3 + x.f3.length ≤ MX) :
    parse_writer_statement.g r1 r2 r3 r4 r5 r6 r7 r8 acc x = some (acc ++ stP p x) ∧ (stP p x).length ≤ 40 + sm c x.f3 := by
  unfold parse_writer_statement.g stP
  by_cases h9 : x.f0 = 9
  · have q1 := wl_len [(⟨#[123]⟩ : ByteArray)]
    simp only [List.length_cons, List.length_nil] at q1
    have q2 : (lsp (⟨#[]⟩ : ByteArray) p x.f3).length ≤ sm c x.f3 := lsp_len hN
    have q3 := wl_len [(⟨#[125]⟩ : ByteArray)]
    simp only [List.length_cons, List.length_nil] at q3
    rw [if_pos h9, if_pos h9, put_f (by lenT), Option.bind_some, hL _ _ _ (fun _ h => h) (by lenT), Option.bind_some, put_f (by lenT), Option.bind_some]
    exact ⟨by first | rfl | simp only [List.append_assoc], by lenT⟩
  rw [if_neg h9, if_neg h9]
  by_cases h10 : x.f0 = 10
  · rw [h10] at hk
    have hk1 : 1 ≤ x.f3.length := by
      rw [show lst 10 = 1 from by decide] at hk; omega
    obtain ⟨y0, m0, a0, e0, b0⟩ := kid0 (p := p) (c := c) (x := x) hk1
    have q1 := wl_len [(⟨#[118, 97, 114]⟩ : ByteArray)]
    simp only [List.length_cons, List.length_nil] at q1
    have q2 := aro_len (a := x.f1) (l := [(⟨#[59]⟩ : ByteArray)]) (hN y0 m0)
    simp only [List.length_cons, List.length_nil] at q2
    rw [if_pos h10, if_pos h10, put_f (by lenT), Option.bind_some, a0, Option.bind_some, hA y0 m0 _ _ _ (by lenT), Option.bind_some]
    simp only [e0]
    exact ⟨by first | rfl | simp only [List.append_assoc], by lenT⟩
  rw [if_neg h10, if_neg h10]
  by_cases h11 : x.f0 = 11
  · rw [h11] at hk
    have hk1 : 2 ≤ x.f3.length := by
      rw [show lst 11 = 2 from by decide] at hk; omega
    obtain ⟨y0, y1, m0, m1, a0, a1, e0, e1, b0⟩ := kid01 (p := p) (c := c) (x := x) hk1
    have q1 := aro_len (a := (⟨#[]⟩ : ByteArray)) (l := [(⟨#[61]⟩ : ByteArray)]) (hN y0 m0)
    simp only [List.length_cons, List.length_nil] at q1
    have q2 := aro_len (a := (⟨#[]⟩ : ByteArray)) (l := [(⟨#[59]⟩ : ByteArray)]) (hN y1 m1)
    simp only [List.length_cons, List.length_nil] at q2
    rw [if_pos h11, if_pos h11, a0, Option.bind_some, hA y0 m0 _ _ _ (by lenT), Option.bind_some, a1, Option.bind_some, hA y1 m1 _ _ _ (by lenT), Option.bind_some]
    simp only [e0, e1]
    exact ⟨by first | rfl | simp only [List.append_assoc], by lenT⟩
  rw [if_neg h11, if_neg h11]
  by_cases h12 : x.f0 = 12
  · rw [h12] at hk
    have hk1 : 2 ≤ x.f3.length := by
      rw [show lst 12 = 2 from by decide] at hk; omega
    have q1 := wl_len [(⟨#[105, 102]⟩ : ByteArray)]
    simp only [List.length_cons, List.length_nil] at q1
    have t2 := sm_take c x.f3 2
    have u2 : (x.f3.take 2).length ≤ x.f3.length := by rw [List.length_take]; omega
    have q2 : (lsp (⟨#[]⟩ : ByteArray) p (x.f3.take 2)).length ≤ sm c (x.f3.take 2) := lsp_len (fun y h => hN y (List.mem_of_mem_take h))
    rw [if_pos h12, if_pos h12, put_f (by lenT), Option.bind_some, show cut? x.f3 (0 : Int) 2 = some (x.f3.take 2) from cut_take hk1, Option.bind_some, hL _ _ _ (fun y h => List.mem_of_mem_take h) (by lenT), Option.bind_some]
    by_cases h3 : 2 < x.f3.length
    · obtain ⟨y2, m2, a2, e2, b2⟩ := kid2 (p := p) (c := c) (x := x) (by omega)
      have q9 := aro_len (a := (⟨#[101, 108, 115, 101]⟩ : ByteArray)) (l := []) (hN y2 m2)
      simp only [List.length_cons, List.length_nil] at q9
      rw [if_pos (by omega : (2 : Int) < (x.f3.length : Int)), if_pos h3, a2, Option.bind_some, hA y2 m2 _ _ _ (by lenT), Option.bind_some]
      refine ⟨by simp only [e2, List.append_assoc], ?_⟩
      simp only [e2]
      lenT
    · rw [if_neg (by omega : ¬ (2 : Int) < (x.f3.length : Int)), if_neg h3]
      refine ⟨by simp only [List.append_assoc, List.append_nil], ?_⟩
      lenT
  rw [if_neg h12, if_neg h12]
  by_cases h13 : x.f0 = 13
  · rw [h13] at hk
    have hk1 : 2 ≤ x.f3.length := by
      rw [show lst 13 = 2 from by decide] at hk; omega
    have q1 := wl_len [(⟨#[102, 111, 114]⟩ : ByteArray)]
    simp only [List.length_cons, List.length_nil] at q1
    have t2 := sm_take c x.f3 2
    have u2 : (x.f3.take 2).length ≤ x.f3.length := by rw [List.length_take]; omega
    have q2 : (lsp (⟨#[]⟩ : ByteArray) p (x.f3.take 2)).length ≤ sm c (x.f3.take 2) := lsp_len (fun y h => hN y (List.mem_of_mem_take h))
    rw [if_pos h13, if_pos h13, put_f (by lenT), Option.bind_some, show cut? x.f3 (0 : Int) 2 = some (x.f3.take 2) from cut_take hk1, Option.bind_some, hL _ _ _ (fun y h => List.mem_of_mem_take h) (by lenT), Option.bind_some]
    exact ⟨by first | rfl | simp only [List.append_assoc], by lenT⟩
  rw [if_neg h13, if_neg h13]
  by_cases h14 : x.f0 = 14
  · have q1 := wl_len [(⟨#[114, 101, 116, 117, 114, 110]⟩ : ByteArray)]
    simp only [List.length_cons, List.length_nil] at q1
    have t2 := sm_take c x.f3 1
    have u2 : (x.f3.take 1).length ≤ x.f3.length := by rw [List.length_take]; omega
    have q2 : (lsp (⟨#[]⟩ : ByteArray) p (x.f3.take 1)).length ≤ sm c (x.f3.take 1) := lsp_len (fun y h => hN y (List.mem_of_mem_take h))
    have q3 := wl_len [(⟨#[59]⟩ : ByteArray)]
    simp only [List.length_cons, List.length_nil] at q3
    rw [if_pos h14, if_pos h14, put_f (by lenT), Option.bind_some, cut_min, Option.bind_some, hL _ _ _ (fun y h => List.mem_of_mem_take h) (by lenT), Option.bind_some, put_f (by lenT), Option.bind_some]
    exact ⟨by first | rfl | simp only [List.append_assoc], by lenT⟩
  rw [if_neg h14, if_neg h14]
  by_cases h15 : x.f0 = 15
  · rw [h15] at hk
    have hk1 : 1 ≤ x.f3.length := by
      rw [show lst 15 = 1 from by decide] at hk; omega
    obtain ⟨y0, m0, a0, e0, b0⟩ := kid0 (p := p) (c := c) (x := x) hk1
    have q1 := aro_len (a := (⟨#[112, 114, 105, 110, 116]⟩ : ByteArray)) (l := [(⟨#[59]⟩ : ByteArray)]) (hN y0 m0)
    simp only [List.length_cons, List.length_nil] at q1
    rw [if_pos h15, if_pos h15, a0, Option.bind_some, hA y0 m0 _ _ _ (by lenT), Option.bind_some]
    simp only [e0]
    exact ⟨by first | rfl | simp only [List.append_assoc], by lenT⟩
  rw [if_neg h15, if_neg h15]
  by_cases h16 : x.f0 = 16
  · rw [h16] at hk
    have hk1 : 1 ≤ x.f3.length := by
      rw [show lst 16 = 1 from by decide] at hk; omega
    obtain ⟨y0, m0, a0, e0, b0⟩ := kid0 (p := p) (c := c) (x := x) hk1
    have q1 := aro_len (a := (⟨#[]⟩ : ByteArray)) (l := [(⟨#[59]⟩ : ByteArray)]) (hN y0 m0)
    simp only [List.length_cons, List.length_nil] at q1
    rw [if_pos h16, if_pos h16, a0, Option.bind_some, hA y0 m0 _ _ _ (by lenT), Option.bind_some]
    simp only [e0]
    exact ⟨by first | rfl | simp only [List.append_assoc], by lenT⟩
  rw [if_neg h16, if_neg h16]
  exact ⟨by simp, by simp⟩
theorem expr_g' {r1 : N1} {r2 r3 : N2} {r4 : N4} {r5 r6 r7 : N2} {r8 : N8} (hA : AroOk r4 p c x.f3) (hL : LisOk r8 p c x.f3) (hN : ∀ y ∈ x.f3, (p y).length + 4 ≤ c y) (hk : lst x.f0 ≤ x.f3.length) {acc : List ByteArray} (ha : acc.length + 64 + sm c x.f3 + x.f3.length ≤ MX) :
    parse_writer_expr.g r1 r2 r3 r4 r5 r6 r7 r8 acc x = some (acc ++ exP p x) ∧ (exP p x).length ≤ 40 + sm c x.f3 := by
  unfold parse_writer_expr.g exP
  dsimp only [jn]
  have hc : (if x.f0 = 17 then decide (x.f0 = 17) else decide (x.f0 = 18)) = decide (x.f0 = 17 ∨ x.f0 = 18) := by by_cases a : x.f0 = 17 <;> simp [a]
  by_cases h17 : x.f0 = 17 ∨ x.f0 = 18
  · have q1 := wl_len [x.f1]
    simp only [List.length_cons, List.length_nil] at q1
    rw [if_pos h17]
    rcases h17 with h | h
    · rw [if_pos h, if_pos (decide_eq_true h), put_f (by lenT)]
      exact ⟨rfl, by lenT⟩
    · rw [if_neg (by omega), if_pos (decide_eq_true h), put_f (by lenT)]
      exact ⟨rfl, by lenT⟩
  rw [if_neg h17, if_neg (by omega), if_neg (by simp; omega)]
  by_cases h19 : x.f0 = 19
  · rw [h19] at hk
    have hk1 : 2 ≤ x.f3.length := by
      rw [show lst 19 = 2 from by decide] at hk; omega
    obtain ⟨y0, y1, m0, m1, a0, a1, e0, e1, b0⟩ := kid01 (p := p) (c := c) (x := x) hk1
    have q1 := aro_len (a := (⟨#[40]⟩ : ByteArray)) (l := [x.f1]) (hN y0 m0)
    simp only [List.length_cons, List.length_nil] at q1
    have q2 := aro_len (a := (⟨#[]⟩ : ByteArray)) (l := [(⟨#[41]⟩ : ByteArray)]) (hN y1 m1)
    simp only [List.length_cons, List.length_nil] at q2
    rw [if_pos h19, if_pos h19, a0, Option.bind_some, hA y0 m0 _ _ _ (by lenT), Option.bind_some, a1, Option.bind_some, hA y1 m1 _ _ _ (by lenT), Option.bind_some]
    simp only [e0, e1]
    exact ⟨by first | rfl | simp only [List.append_assoc], by lenT⟩
  rw [if_neg h19, if_neg h19]
  by_cases h20 : x.f0 = 20
  · rw [h20] at hk
    have hk1 : 1 ≤ x.f3.length := by
      rw [show lst 20 = 1 from by decide] at hk; omega
    obtain ⟨y0, m0, a0, e0, b0⟩ := kid0 (p := p) (c := c) (x := x) hk1
    have q1 := wl_len [(⟨#[40]⟩ : ByteArray)]
    simp only [List.length_cons, List.length_nil] at q1
    have q2 := aro_len (a := (⟨#[45]⟩ : ByteArray)) (l := [(⟨#[41]⟩ : ByteArray)]) (hN y0 m0)
    simp only [List.length_cons, List.length_nil] at q2
    rw [if_pos h20, if_pos h20, put_f (by lenT), Option.bind_some, a0, Option.bind_some, hA y0 m0 _ _ _ (by lenT), Option.bind_some]
    simp only [e0]
    exact ⟨by first | rfl | simp only [List.append_assoc], by lenT⟩
  rw [if_neg h20, if_neg h20]
  by_cases h21 : x.f0 = 21
  · rw [h21] at hk
    have hk1 : 1 ≤ x.f3.length := by
      rw [show lst 21 = 1 from by decide] at hk; omega
    obtain ⟨y0, m0, a0, e0, b0⟩ := kid0 (p := p) (c := c) (x := x) hk1
    have q1 := wl_len [(⟨#[40]⟩ : ByteArray)]
    simp only [List.length_cons, List.length_nil] at q1
    have q2 := aro_len (a := (⟨#[42]⟩ : ByteArray)) (l := [(⟨#[41]⟩ : ByteArray)]) (hN y0 m0)
    simp only [List.length_cons, List.length_nil] at q2
    rw [if_pos h21, if_pos h21, put_f (by lenT), Option.bind_some, a0, Option.bind_some, hA y0 m0 _ _ _ (by lenT), Option.bind_some]
    simp only [e0]
    exact ⟨by first | rfl | simp only [List.append_assoc], by lenT⟩
  rw [if_neg h21, if_neg h21]
  by_cases h22 : x.f0 = 22
  · rw [h22] at hk
    have hk1 : 1 ≤ x.f3.length := by
      rw [show lst 22 = 1 from by decide] at hk; omega
    obtain ⟨y0, m0, a0, e0, b0⟩ := kid0 (p := p) (c := c) (x := x) hk1
    have q1 := wl_len [(⟨#[40]⟩ : ByteArray)]
    simp only [List.length_cons, List.length_nil] at q1
    have q2 := aro_len (a := (⟨#[38]⟩ : ByteArray)) (l := [(⟨#[41]⟩ : ByteArray)]) (hN y0 m0)
    simp only [List.length_cons, List.length_nil] at q2
    rw [if_pos h22, if_pos h22, put_f (by lenT), Option.bind_some, a0, Option.bind_some, hA y0 m0 _ _ _ (by lenT), Option.bind_some]
    simp only [e0]
    exact ⟨by first | rfl | simp only [List.append_assoc], by lenT⟩
  rw [if_neg h22, if_neg h22]
  by_cases h23 : x.f0 = 23
  · rw [h23] at hk
    have hk1 : 2 ≤ x.f3.length := by
      rw [show lst 23 = 2 from by decide] at hk; omega
    obtain ⟨y0, y1, m0, m1, a0, a1, e0, e1, b0⟩ := kid01 (p := p) (c := c) (x := x) hk1
    have q1 := aro_len (a := (⟨#[]⟩ : ByteArray)) (l := [(⟨#[91]⟩ : ByteArray)]) (hN y0 m0)
    simp only [List.length_cons, List.length_nil] at q1
    have q2 := aro_len (a := (⟨#[]⟩ : ByteArray)) (l := [(⟨#[93]⟩ : ByteArray)]) (hN y1 m1)
    simp only [List.length_cons, List.length_nil] at q2
    rw [if_pos h23, if_pos h23, a0, Option.bind_some, hA y0 m0 _ _ _ (by lenT), Option.bind_some, a1, Option.bind_some, hA y1 m1 _ _ _ (by lenT), Option.bind_some]
    simp only [e0, e1]
    exact ⟨by first | rfl | simp only [List.append_assoc], by lenT⟩
  rw [if_neg h23, if_neg h23]
  by_cases h24 : x.f0 = 24
  · rw [h24] at hk
    have hk1 : 1 ≤ x.f3.length := by
      rw [show lst 24 = 1 from by decide] at hk; omega
    obtain ⟨y0, m0, a0, e0, b0⟩ := kid0 (p := p) (c := c) (x := x) hk1
    have q1 := aro_len (a := (⟨#[]⟩ : ByteArray)) (l := [(⟨#[46]⟩ : ByteArray), x.f1]) (hN y0 m0)
    simp only [List.length_cons, List.length_nil] at q1
    rw [if_pos h24, if_pos h24, a0, Option.bind_some, hA y0 m0 _ _ _ (by lenT), Option.bind_some]
    simp only [e0]
    exact ⟨by first | rfl | simp only [List.append_assoc], by lenT⟩
  rw [if_neg h24, if_neg h24]
  by_cases h25 : x.f0 = 25
  · have q1 := wl_len [x.f1, (⟨#[40]⟩ : ByteArray)]
    simp only [List.length_cons, List.length_nil] at q1
    have q2 : (lsp (⟨#[44]⟩ : ByteArray) p x.f3).length ≤ sm c x.f3 := lsp_len hN
    have q3 := wl_len [(⟨#[41]⟩ : ByteArray)]
    simp only [List.length_cons, List.length_nil] at q3
    rw [if_pos h25, if_pos h25, put_f (by lenT), Option.bind_some, hL _ _ _ (fun _ h => h) (by lenT), Option.bind_some, put_f (by lenT), Option.bind_some]
    exact ⟨by first | rfl | simp only [List.append_assoc], by lenT⟩
  rw [if_neg h25, if_neg h25]
  by_cases h26 : x.f0 = 26
  · rw [h26] at hk
    have hk1 : 1 ≤ x.f3.length := by
      rw [show lst 26 = 1 from by decide] at hk; omega
    obtain ⟨y0, m0, a0, e0, b0⟩ := kid0 (p := p) (c := c) (x := x) hk1
    have q1 := wl_len [(⟨#[110, 101, 119]⟩ : ByteArray), (⟨#[40]⟩ : ByteArray)]
    simp only [List.length_cons, List.length_nil] at q1
    have q2 := aro_len (a := (⟨#[]⟩ : ByteArray)) (l := [(⟨#[41]⟩ : ByteArray)]) (hN y0 m0)
    simp only [List.length_cons, List.length_nil] at q2
    rw [if_pos h26, if_pos h26, put_f (by lenT), Option.bind_some, a0, Option.bind_some, hA y0 m0 _ _ _ (by lenT), Option.bind_some]
    simp only [e0]
    exact ⟨by first | rfl | simp only [List.append_assoc], by lenT⟩
  rw [if_neg h26, if_neg h26]
  by_cases h27 : x.f0 = 27
  · have q1 := wl_len [(⟨#[114, 101, 97, 100]⟩ : ByteArray)]
    simp only [List.length_cons, List.length_nil] at q1
    rw [if_pos h27, if_pos h27, put_f (by lenT), Option.bind_some]
    exact ⟨by first | rfl | simp only [List.append_assoc], by lenT⟩
  rw [if_neg h27, if_neg h27]
  exact ⟨by simp, by simp⟩
end
end Go.Proofs.Ythlhmoocgjddpaa.Sy
