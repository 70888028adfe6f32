/- Texts of this work, joined: SyF28, SyF11, SyF14, SyF35, SyF17, TrR, TrC, SyF50, SyF51, SyF52, SyF25, SyF10, TrD, TrE. -/
import Derived.Test.YtfmocegnpmomnaaSyNForwardRunsc
set_option linter.unusedVariables false
set_option linter.unusedSimpArgs false
set_option maxRecDepth 100000
set_option maxHeartbeats 4000000
namespace Go.Proofs.Ytfmocegnpmomnaa.Sy
open Go Go.RowKit Go.Proofs.YtfmocegnpmomnaaW.PrintWords 
def trace_runner_call.post (G:Gd) (b1:Nat) (A2:Option Addr) (c3:Nat) (b6:Nat) (A7:Option Addr) (c8:Nat) (A10:Option Addr) (c11:Nat) (A14:Option Addr) (c15:Nat) (A17:Option Addr) (c18:Nat) (A21:Option Addr) (c22:Nat) (n24:Nat) (a0_0:(List S45)) (a0_1_0:(List Int)) (a0_1_1:Int) (a0_1_2:Int) (a0_2:(List Int)) (a0_3:Int) (a0_4:Int) (a0_5:(List Int)) (a0_6:Int) (a0_7:Int) (a0_8:Int) (a0_9:Int) (a1:S45) (a2:(List Int)) (r:(Int × Int × (List Int) × Int × (List Int) × Int × Int × (List Int) × Int × Int × Int)) (v:Value) (G':Gd) (Lr:List Ch):Prop:=G=G'∧∃ (A_s1:Option Addr) (c_s1:Nat) (A_s4:Option Addr) (c_s4:Nat) (A_s7:Option Addr) (c_s7:Nat),v=.tuple #[VI r.1,VI r.2.1]∧Lr=[Blk b1 [.slice A2 a0_0.length c3,VP b6 0,.slice A_s4 r.2.2.2.2.1.length c_s4,VI r.2.2.2.2.2.1,VI r.2.2.2.2.2.2.1,.slice A_s7 r.2.2.2.2.2.2.2.1.length c_s7,VI a0_6,VI r.2.2.2.2.2.2.2.2.1,VI r.2.2.2.2.2.2.2.2.2.1,VI r.2.2.2.2.2.2.2.2.2.2] 58,Blk b6 [.slice A_s1 r.2.2.1.length c_s1,VI r.2.2.2.1,VI a0_1_2] 89,Row kI 3 (.slice A_s1 r.2.2.1.length c_s1) r.2.2.1,Row kI 3 (.slice A_s7 r.2.2.2.2.2.2.2.1.length c_s7) r.2.2.2.2.2.2.2.1,Row kI 3 (.slice A21 n24 c22) a2]∧Rd G' kI A_s4 r.2.2.2.2.1∧r.2.2.2.2.1.length ≤ c_s4
def trace_runner_block.post (G:Gd) (b1:Nat) (A2:Option Addr) (c3:Nat) (b6:Nat) (A7:Option Addr) (c8:Nat) (A10:Option Addr) (c11:Nat) (A14:Option Addr) (c15:Nat) (A17:Option Addr) (c18:Nat) (A21:Option Addr) (c22:Nat) (n24:Nat) (a0_0:(List S45)) (a0_1_0:(List Int)) (a0_1_1:Int) (a0_1_2:Int) (a0_2:(List Int)) (a0_3:Int) (a0_4:Int) (a0_5:(List Int)) (a0_6:Int) (a0_7:Int) (a0_8:Int) (a0_9:Int) (a1:S42) (a2:(List Int)) (r:(Int × (List Int) × Int × (List Int) × Int × Int × (List Int) × Int × Int × Int × (List Int))) (v:Value) (G':Gd) (Lr:List Ch):Prop:=G=G'∧∃ (A_s1:Option Addr) (c_s1:Nat) (A_s4:Option Addr) (c_s4:Nat) (A_s7:Option Addr) (c_s7:Nat),v=VI r.1∧Lr=[Blk b1 [.slice A2 a0_0.length c3,VP b6 0,.slice A_s4 r.2.2.2.1.length c_s4,VI r.2.2.2.2.1,VI r.2.2.2.2.2.1,.slice A_s7 r.2.2.2.2.2.2.1.length c_s7,VI a0_6,VI r.2.2.2.2.2.2.2.1,VI r.2.2.2.2.2.2.2.2.1,VI r.2.2.2.2.2.2.2.2.2.1] 58,Blk b6 [.slice A_s1 r.2.1.length c_s1,VI r.2.2.1,VI a0_1_2] 89,Row kI 3 (.slice A_s1 r.2.1.length c_s1) r.2.1,Row kI 3 (.slice A_s7 r.2.2.2.2.2.2.1.length c_s7) r.2.2.2.2.2.2.1,Row kI 3 (.slice A21 n24 c22) r.2.2.2.2.2.2.2.2.2.2]∧Rd G' kI A_s4 r.2.2.2.1∧r.2.2.2.1.length ≤ c_s4
def trace_runner_value.post (G:Gd) (b1:Nat) (A2:Option Addr) (c3:Nat) (b6:Nat) (A7:Option Addr) (c8:Nat) (A10:Option Addr) (c11:Nat) (A14:Option Addr) (c15:Nat) (A17:Option Addr) (c18:Nat) (A21:Option Addr) (c22:Nat) (n24:Nat) (a0_0:(List S45)) (a0_1_0:(List Int)) (a0_1_1:Int) (a0_1_2:Int) (a0_2:(List Int)) (a0_3:Int) (a0_4:Int) (a0_5:(List Int)) (a0_6:Int) (a0_7:Int) (a0_8:Int) (a0_9:Int) (a1:S37) (a2:(List Int)) (r:(Int × Int × (List Int) × Int × (List Int) × Int × Int × (List Int) × Int × Int × Int)) (v:Value) (G':Gd) (Lr:List Ch):Prop:=G=G'∧∃ (A_s1:Option Addr) (c_s1:Nat) (A_s4:Option Addr) (c_s4:Nat) (A_s7:Option Addr) (c_s7:Nat),v=.tuple #[VI r.1,VI r.2.1]∧Lr=[Blk b1 [.slice A2 a0_0.length c3,VP b6 0,.slice A_s4 r.2.2.2.2.1.length c_s4,VI r.2.2.2.2.2.1,VI r.2.2.2.2.2.2.1,.slice A_s7 r.2.2.2.2.2.2.2.1.length c_s7,VI a0_6,VI r.2.2.2.2.2.2.2.2.1,VI r.2.2.2.2.2.2.2.2.2.1,VI r.2.2.2.2.2.2.2.2.2.2] 58,Blk b6 [.slice A_s1 r.2.2.1.length c_s1,VI r.2.2.2.1,VI a0_1_2] 89,Row kI 3 (.slice A_s1 r.2.2.1.length c_s1) r.2.2.1,Row kI 3 (.slice A_s7 r.2.2.2.2.2.2.2.1.length c_s7) r.2.2.2.2.2.2.2.1,Row kI 3 (.slice A21 n24 c22) a2]∧Rd G' kI A_s4 r.2.2.2.2.1∧r.2.2.2.2.1.length ≤ c_s4
def trace_runner_call.l0 (rec58:((List S45) → (List Int) → Int → Int → (List Int) → Int → Int → (List Int) → Int → Int → Int → Int → S42 → (List Int) → Option (Int × (List Int) × Int × (List Int) × Int × Int × (List Int) × Int × Int × Int × (List Int)))) (a0_0:(List S45)) (a0_1_2:Int) (a0_6:Int) (a1:S45):Nat → (List Int) → Int → (List Int) → Int → Int → (List Int) → Int → Int → Int → (List Int) → Int → Option (Int × Int × (List Int) × Int × (List Int) × Int × Int × (List Int) × Int × Int × Int)
 | 0,_,_,_,_,_,_,_,_,_,_,_=>none
 | n1542 + 1,l1035,x1039,l1040,x1045,x1046,l1047,x1051,x1052,x1053,l1054,x1058=>(at? a1.f1 x1039).bind fun y2320=>(rec58 a0_0 l1054 x1058 a0_1_2 l1040 x1045 x1046 l1047 a0_6 x1051 x1052 x1053 y2320 l1035).bind fun (y2334:(Int × (List Int) × Int × (List Int) × Int × Int × (List Int) × Int × Int × Int × (List Int)))=>(if (!decide (y2334.1=0))=true then some (0,y2334.1,y2334.2.1,y2334.2.2.1,y2334.2.2.2.1,y2334.2.2.2.2.1,IntKind.i64.wrap (y2334.2.2.2.2.2.1 - 1),y2334.2.2.2.2.2.2.1,y2334.2.2.2.2.2.2.2.1,y2334.2.2.2.2.2.2.2.2.1,y2334.2.2.2.2.2.2.2.2.2.1) else (if y2320.f1.f0=3 then (at? y2334.2.2.2.2.2.2.2.2.2.2 y2320.f1.f1).bind fun y2569=>some (y2569,0,y2334.2.1,y2334.2.2.1,y2334.2.2.2.1,y2334.2.2.2.2.1,IntKind.i64.wrap (y2334.2.2.2.2.2.1 - 1),y2334.2.2.2.2.2.2.1,y2334.2.2.2.2.2.2.2.1,y2334.2.2.2.2.2.2.2.2.1,y2334.2.2.2.2.2.2.2.2.2.1) else (if y2320.f1.f0=4 then some (0,y2320.f1.f2,y2334.2.1,y2334.2.2.1,y2334.2.2.2.1,y2334.2.2.2.2.1,IntKind.i64.wrap (y2334.2.2.2.2.2.1 - 1),y2334.2.2.2.2.2.2.1,y2334.2.2.2.2.2.2.2.1,y2334.2.2.2.2.2.2.2.2.1,y2334.2.2.2.2.2.2.2.2.2.1) else jn (γ:=(Int × Int × (List Int) × Int × (List Int) × Int × Int × (List Int) × Int × Int × Int)) (fun (x2639:Bool)=>(if x2639=true then trace_runner_call.l0 rec58 a0_0 a0_1_2 a0_6 a1 n1542 y2334.2.2.2.2.2.2.2.2.2.2 y2320.f1.f2 y2334.2.2.2.1 y2334.2.2.2.2.1 y2334.2.2.2.2.2.1 y2334.2.2.2.2.2.2.1 y2334.2.2.2.2.2.2.2.1 y2334.2.2.2.2.2.2.2.2.1 y2334.2.2.2.2.2.2.2.2.2.1 y2334.2.1 y2334.2.2.1 else trace_runner_call.l0 rec58 a0_0 a0_1_2 a0_6 a1 n1542 y2334.2.2.2.2.2.2.2.2.2.2 y2320.f1.f3 y2334.2.2.2.1 y2334.2.2.2.2.1 y2334.2.2.2.2.2.1 y2334.2.2.2.2.2.2.1 y2334.2.2.2.2.2.2.2.1 y2334.2.2.2.2.2.2.2.2.1 y2334.2.2.2.2.2.2.2.2.2.1 y2334.2.1 y2334.2.2.1)) (fun (j2640:(Bool → Option (Int × Int × (List Int) × Int × (List Int) × Int × Int × (List Int) × Int × Int × Int)))=>(if y2320.f1.f0=1 then j2640 true else (at? y2334.2.2.2.2.2.2.2.2.2.2 y2320.f1.f1).bind fun y2652=>j2640 (!decide (y2652=0)))))))
def trace_runner_call.g (rec28:((List S45) → (List Int) → Int → Int → (List Int) → Int → Int → (List Int) → Int → Int → Int → Int → S45 → (List Int) → Option (Int × Int × (List Int) × Int × (List Int) × Int × Int × (List Int) × Int × Int × Int))) (rec58:((List S45) → (List Int) → Int → Int → (List Int) → Int → Int → (List Int) → Int → Int → Int → Int → S42 → (List Int) → Option (Int × (List Int) × Int × (List Int) × Int × Int × (List Int) × Int × Int × Int × (List Int)))) (rec82:((List S45) → (List Int) → Int → Int → (List Int) → Int → Int → (List Int) → Int → Int → Int → Int → S37 → (List Int) → Option (Int × Int × (List Int) × Int × (List Int) × Int × Int × (List Int) × Int × Int × Int))) (a0_0:(List S45)) (a0_1_0:(List Int)) (a0_1_1:Int) (a0_1_2:Int) (a0_2:(List Int)) (a0_3:Int) (a0_4:Int) (a0_5:(List Int)) (a0_6:Int) (a0_7:Int) (a0_8:Int) (a0_9:Int) (a1:S45) (a2:(List Int)):Option (Int × Int × (List Int) × Int × (List Int) × Int × Int × (List Int) × Int × Int × Int):=(if 1000 ≤ a0_4 then some (0,8,a0_1_0,a0_1_1,a0_2,a0_3,a0_4,a0_5,a0_7,a0_8,a0_9) else (code_Regs.f a1).bind fun (y29:Int)=>(if 0 ≤ (IntKind.i64.wrap (y29 + 1))∧(IntKind.i64.wrap (y29 + 1)) ≤ 17592186044416 then (if 0 ≤ (1:Int)∧(1:Int) ≤ ((List.replicate (IntKind.i64.wrap (y29 + 1)).toNat (0:Int)).length:Int)∧((List.replicate (IntKind.i64.wrap (y29 + 1)).toNat (0:Int)).length:Int) ≤ ((List.replicate (IntKind.i64.wrap (y29 + 1)).toNat (0:Int)).length:Int) then (some (cpyL (List.replicate (IntKind.i64.wrap (y29 + 1)).toNat (0:Int)) (1:Int) ((List.replicate (IntKind.i64.wrap (y29 + 1)).toNat (0:Int)).length:Int) a2)).bind fun (y43:List Int)=>(trace_runner_call.l0 rec58 a0_0 a0_1_2 a0_6 a1 100000 y43 0 a0_2 a0_3 (IntKind.i64.wrap (a0_4 + 1)) a0_5 a0_7 a0_8 a0_9 a0_1_0 a0_1_1).bind fun q_=>some q_ else none) else none))
theorem trace_runner_call.step (rec28:((List S45) → (List Int) → Int → Int → (List Int) → Int → Int → (List Int) → Int → Int → Int → Int → S45 → (List Int) → Option (Int × Int × (List Int) × Int × (List Int) × Int × Int × (List Int) × Int × Int × Int))) (rec58:((List S45) → (List Int) → Int → Int → (List Int) → Int → Int → (List Int) → Int → Int → Int → Int → S42 → (List Int) → Option (Int × (List Int) × Int × (List Int) × Int × Int × (List Int) × Int × Int × Int × (List Int)))) (rec82:((List S45) → (List Int) → Int → Int → (List Int) → Int → Int → (List Int) → Int → Int → Int → Int → S37 → (List Int) → Option (Int × Int × (List Int) × Int × (List Int) × Int × Int × (List Int) × Int × Int × Int))) (ih28:∀ {G:Gd} {r:(Int × Int × (List Int) × Int × (List Int) × Int × Int × (List Int) × Int × Int × Int)} {a0_0:(List S45)} {a0_1_0:(List Int)} {a0_1_1:Int} {a0_1_2:Int} {a0_2:(List Int)} {a0_3:Int} {a0_4:Int} {a0_5:(List Int)} {a0_6:Int} {a0_7:Int} {a0_8:Int} {a0_9:Int} {a1:S45} {a2:(List Int)} {b1:Nat} {A2:Option Addr} {c3:Nat} {b6:Nat} {A7:Option Addr} {c8:Nat} {A10:Option Addr} {c11:Nat} {A14:Option Addr} {c15:Nat} {A17:Option Addr} {c18:Nat} {A21:Option Addr} {c22:Nat} {n24:Nat} (hr4:Rd G k45 A2 a0_0) (hl5:a0_0.length ≤ c3) (hr12:Rd G kI A10 a0_2) (hl13:a0_2.length ≤ c11) (hr19:Rd G k42 A17 a1.f1) (hl20:a1.f1.length ≤ c18),rec28 a0_0 a0_1_0 a0_1_1 a0_1_2 a0_2 a0_3 a0_4 a0_5 a0_6 a0_7 a0_8 a0_9 a1 a2=some r → Fn Try.prog 28 G [Blk b1 [.slice A2 a0_0.length c3,VP b6 0,.slice A10 a0_2.length c11,VI a0_3,VI a0_4,.slice A14 a0_5.length c15,VI a0_6,VI a0_7,VI a0_8,VI a0_9] 58,Blk b6 [.slice A7 a0_1_0.length c8,VI a0_1_1,VI a0_1_2] 89,Row kI 3 (.slice A7 a0_1_0.length c8) a0_1_0,Row kI 3 (.slice A14 a0_5.length c15) a0_5,Row kI 3 (.slice A21 n24 c22) a2] [VP b1 0,.agg #[VI a1.f0,.slice A17 a1.f1.length c18],.slice A21 n24 c22] (trace_runner_call.post G b1 A2 c3 b6 A7 c8 A10 c11 A14 c15 A17 c18 A21 c22 n24 a0_0 a0_1_0 a0_1_1 a0_1_2 a0_2 a0_3 a0_4 a0_5 a0_6 a0_7 a0_8 a0_9 a1 a2 r)) (ih58:∀ {G:Gd} {r:(Int × (List Int) × Int × (List Int) × Int × Int × (List Int) × Int × Int × Int × (List Int))} {a0_0:(List S45)} {a0_1_0:(List Int)} {a0_1_1:Int} {a0_1_2:Int} {a0_2:(List Int)} {a0_3:Int} {a0_4:Int} {a0_5:(List Int)} {a0_6:Int} {a0_7:Int} {a0_8:Int} {a0_9:Int} {a1:S42} {a2:(List Int)} {b1:Nat} {A2:Option Addr} {c3:Nat} {b6:Nat} {A7:Option Addr} {c8:Nat} {A10:Option Addr} {c11:Nat} {A14:Option Addr} {c15:Nat} {A17:Option Addr} {c18:Nat} {A21:Option Addr} {c22:Nat} {n24:Nat} (hr4:Rd G k45 A2 a0_0) (hl5:a0_0.length ≤ c3) (hr12:Rd G kI A10 a0_2) (hl13:a0_2.length ≤ c11) (hr19:Rd G k37 A17 a1.f0) (hl20:a1.f0.length ≤ c18),rec58 a0_0 a0_1_0 a0_1_1 a0_1_2 a0_2 a0_3 a0_4 a0_5 a0_6 a0_7 a0_8 a0_9 a1 a2=some r → Fn Try.prog 58 G [Blk b1 [.slice A2 a0_0.length c3,VP b6 0,.slice A10 a0_2.length c11,VI a0_3,VI a0_4,.slice A14 a0_5.length c15,VI a0_6,VI a0_7,VI a0_8,VI a0_9] 58,Blk b6 [.slice A7 a0_1_0.length c8,VI a0_1_1,VI a0_1_2] 89,Row kI 3 (.slice A7 a0_1_0.length c8) a0_1_0,Row kI 3 (.slice A14 a0_5.length c15) a0_5,Row kI 3 (.slice A21 n24 c22) a2] [VP b1 0,.agg #[.slice A17 a1.f0.length c18,VI a1.f1.f0,VI a1.f1.f1,VI a1.f1.f2,VI a1.f1.f3],.slice A21 n24 c22] (trace_runner_block.post G b1 A2 c3 b6 A7 c8 A10 c11 A14 c15 A17 c18 A21 c22 n24 a0_0 a0_1_0 a0_1_1 a0_1_2 a0_2 a0_3 a0_4 a0_5 a0_6 a0_7 a0_8 a0_9 a1 a2 r)) (ih82:∀ {G:Gd} {r:(Int × Int × (List Int) × Int × (List Int) × Int × Int × (List Int) × Int × Int × Int)} {a0_0:(List S45)} {a0_1_0:(List Int)} {a0_1_1:Int} {a0_1_2:Int} {a0_2:(List Int)} {a0_3:Int} {a0_4:Int} {a0_5:(List Int)} {a0_6:Int} {a0_7:Int} {a0_8:Int} {a0_9:Int} {a1:S37} {a2:(List Int)} {b1:Nat} {A2:Option Addr} {c3:Nat} {b6:Nat} {A7:Option Addr} {c8:Nat} {A10:Option Addr} {c11:Nat} {A14:Option Addr} {c15:Nat} {A17:Option Addr} {c18:Nat} {A21:Option Addr} {c22:Nat} {n24:Nat} (hr4:Rd G k45 A2 a0_0) (hl5:a0_0.length ≤ c3) (hr12:Rd G kI A10 a0_2) (hl13:a0_2.length ≤ c11) (hr19:Rd G kI A17 a1.f5) (hl20:a1.f5.length ≤ c18),rec82 a0_0 a0_1_0 a0_1_1 a0_1_2 a0_2 a0_3 a0_4 a0_5 a0_6 a0_7 a0_8 a0_9 a1 a2=some r → Fn Try.prog 82 G [Blk b1 [.slice A2 a0_0.length c3,VP b6 0,.slice A10 a0_2.length c11,VI a0_3,VI a0_4,.slice A14 a0_5.length c15,VI a0_6,VI a0_7,VI a0_8,VI a0_9] 58,Blk b6 [.slice A7 a0_1_0.length c8,VI a0_1_1,VI a0_1_2] 89,Row kI 3 (.slice A7 a0_1_0.length c8) a0_1_0,Row kI 3 (.slice A14 a0_5.length c15) a0_5,Row kI 3 (.slice A21 n24 c22) a2] [VP b1 0,.agg #[VI a1.f0,VI a1.f1,VI a1.f2,VI a1.f3,VI a1.f4,.slice A17 a1.f5.length c18],.slice A21 n24 c22] (trace_runner_value.post G b1 A2 c3 b6 A7 c8 A10 c11 A14 c15 A17 c18 A21 c22 n24 a0_0 a0_1_0 a0_1_1 a0_1_2 a0_2 a0_3 a0_4 a0_5 a0_6 a0_7 a0_8 a0_9 a1 a2 r)) {G:Gd} {r:(Int × Int × (List Int) × Int × (List Int) × Int × Int × (List Int) × Int × Int × Int)} {a0_0:(List S45)} {a0_1_0:(List Int)} {a0_1_1:Int} {a0_1_2:Int} {a0_2:(List Int)} {a0_3:Int} {a0_4:Int} {a0_5:(List Int)} {a0_6:Int} {a0_7:Int} {a0_8:Int} {a0_9:Int} {a1:S45} {a2:(List Int)} {b1:Nat} {A2:Option Addr} {c3:Nat} {b6:Nat} {A7:Option Addr} {c8:Nat} {A10:Option Addr} {c11:Nat} {A14:Option Addr} {c15:Nat} {A17:Option Addr} {c18:Nat} {A21:Option Addr} {c22:Nat} {n24:Nat} (hr4:Rd G k45 A2 a0_0) (hl5:a0_0.length ≤ c3) (hr12:Rd G kI A10 a0_2) (hl13:a0_2.length ≤ c11) (hr19:Rd G k42 A17 a1.f1) (hl20:a1.f1.length ≤ c18) (h:trace_runner_call.g rec28 rec58 rec82 a0_0 a0_1_0 a0_1_1 a0_1_2 a0_2 a0_3 a0_4 a0_5 a0_6 a0_7 a0_8 a0_9 a1 a2=some r):Fn Try.prog 28 G [Blk b1 [.slice A2 a0_0.length c3,VP b6 0,.slice A10 a0_2.length c11,VI a0_3,VI a0_4,.slice A14 a0_5.length c15,VI a0_6,VI a0_7,VI a0_8,VI a0_9] 58,Blk b6 [.slice A7 a0_1_0.length c8,VI a0_1_1,VI a0_1_2] 89,Row kI 3 (.slice A7 a0_1_0.length c8) a0_1_0,Row kI 3 (.slice A14 a0_5.length c15) a0_5,Row kI 3 (.slice A21 n24 c22) a2] [VP b1 0,.agg #[VI a1.f0,.slice A17 a1.f1.length c18],.slice A21 n24 c22] (trace_runner_call.post G b1 A2 c3 b6 A7 c8 A10 c11 A14 c15 A17 c18 A21 c22 n24 a0_0 a0_1_0 a0_1_1 a0_1_2 a0_2 a0_3 a0_4 a0_5 a0_6 a0_7 a0_8 a0_9 a1 a2 r):=by
 refine Fn.intro (e:=[(0,VP b1 0),(1,.agg #[VI a1.f0,.slice A17 a1.f1.length c18]),(2,.slice A21 n24 c22)]) 79 Try.func28 rfl Try.ntmps28 rfl rfl (Nat.le_of_ble_eq_true rfl) (fun L=>?_)
 unfold trace_runner_call.g at h
 refine TC.seq ?_
 refine TC.region ?_
 refine TL.cons (TL.box (cs:=[VP b1 0]) rfl rfl rfl rfl (fun b25=>?_))
 refine TL.cons (TL.box (cs:=[VI a1.f0,.slice A17 a1.f1.length c18]) rfl rfl rfl rfl (fun b26=>?_))
 refine TV rfl rfl rfl (Val.assign rfl) ?_
 refine TV rfl rfl rfl (Val.assign rfl) ?_
 refine TL.nil ?_
 refine TQ.then_ ?_
 refine TC.seq ?_
 refine TC.seq ?_
 refine TC.region ?_
 refine TV rfl rfl rfl (Val.loadB 1 agg56 rfl rfl rfl) ?_
 refine TV rfl rfl rfl (Val.nilCheck rfl) ?_
 refine TV rfl rfl rfl (Val.fieldAddrB Try.underlying58 rfl fsz3 rfl rfl rfl) ?_
 refine TV rfl rfl rfl (Val.loadB 2 agg3 rfl rfl rfl) ?_
 refine TV rfl rfl rfl (Val.cmp rfl rfl run_geq) ?_
 refine TL.nil ?_
 refine TQ.then_ ?_
 refine TC.cond_p rfl h (fun hc28 h=>?_) (fun hc28 h=>?_)
 ·
  refine TC.seq ?_
  refine TC.region ?_
  refine TV rfl rfl rfl (Val.assign rfl) ?_
  refine TV rfl rfl rfl (Val.assign rfl) ?_
  refine TL.nil ?_
  refine TQ.then_ ?_
  refine TC.ret ?_
  refine TQ.thenR ?_
  obtain rfl:=Option.some.inj h
  exact TQ.fin (.inl rfl) rfl Try.results28 (.tmp rfl (.tmp rfl .nil)) rfl (FRel.mk (Ls:=[Blk b1 [.slice A2 a0_0.length c3,VP b6 0,.slice A10 a0_2.length c11,VI a0_3,VI a0_4,.slice A14 a0_5.length c15,VI a0_6,VI a0_7,VI a0_8,VI a0_9] 58,Blk b6 [.slice A7 a0_1_0.length c8,VI a0_1_1,VI a0_1_2] 89,Row kI 3 (.slice A7 a0_1_0.length c8) a0_1_0,Row kI 3 (.slice A14 a0_5.length c15) a0_5,Row kI 3 (.slice A21 n24 c22) a2]) [2,3,4,5,6] 7 (Gd.le.refl _) rfl rfl rfl ⟨rfl,A7,c8,A10,c11,A14,c15,rfl,rfl,hr12,hl13⟩)
 ·
  refine TC.skip ?_
  refine TQ.then_ ?_
  refine TC.seq ?_
  refine TC.region ?_
  refine TV rfl rfl rfl (Val.loadB 1 agg56 rfl rfl rfl) ?_
  refine TV rfl rfl rfl (Val.nilCheck rfl) ?_
  refine TV rfl rfl rfl (Val.fieldAddrB Try.underlying58 rfl fsz3 rfl rfl rfl) ?_
  refine TV rfl rfl rfl (Val.loadB 2 agg3 rfl rfl rfl) ?_
  refine TV rfl rfl rfl (Val.cmp rfl rfl run_add) ?_
  refine TV rfl rfl rfl (Val.nilCheck rfl) ?_
  refine TV rfl rfl rfl (Val.fieldAddrB Try.underlying58 rfl fsz3 rfl rfl rfl) ?_
  refine TL.cons (TL.store 2 (ds:=[VI (IntKind.i64.wrap (a0_4 + 1))]) (cs':=[.slice A2 a0_0.length c3,VP b6 0,.slice A10 a0_2.length c11,VI a0_3,VI (IntKind.i64.wrap (a0_4 + 1)),.slice A14 a0_5.length c15,VI a0_6,VI a0_7,VI a0_8,VI a0_9]) (L':=(Blk b26 [VI a1.f0,.slice A17 a1.f1.length c18] 45::Blk b25 [VP b1 0] 56::Blk b1 [.slice A2 a0_0.length c3,VP b6 0,.slice A10 a0_2.length c11,VI a0_3,VI (IntKind.i64.wrap (a0_4 + 1)),.slice A14 a0_5.length c15,VI a0_6,VI a0_7,VI a0_8,VI a0_9] 58::Blk b6 [.slice A7 a0_1_0.length c8,VI a0_1_1,VI a0_1_2] 89::Row kI 3 (.slice A7 a0_1_0.length c8) a0_1_0::Row kI 3 (.slice A14 a0_5.length c15) a0_5::Row kI 3 (.slice A21 n24 c22) a2::L)) rfl fsz3 rfl rfl rfl rfl rfl (Nat.le_of_ble_eq_true rfl) rfl rfl ?_)
  refine TL.nil ?_
  refine TQ.then_ ?_
  refine TC.seq ?_
  refine TC.region ?_
  refine TV rfl rfl rfl (Val.makeFunc (xs:=[]) (ys:=[VP b25 0]) rfl rfl) ?_
  refine TL.cons (TO.defer (vs:=[]) rfl rfl rfl ?_)
  refine TL.nil ?_
  refine TQ.then_ ?_
  refine TC.seq ?_
  refine TC.region ?_
  refine TV rfl rfl rfl (Val.loadsB 0 (cs:=[VI a1.f0,.slice A17 a1.f1.length c18]) agg45 fsz45 rfl rfl rfl rfl) ?_
  obtain ⟨y29,hy30,h⟩:=bind_no h
  refine TL.cons (TL.callV (Lin:=[]) (args:=[.agg #[VI a1.f0,.slice A17 a1.f1.length c18]]) rfl rfl rfl hbd57 rfl rfl (code_Regs.calls (a0:=a1) hr19 hl20 hy30) rfl ?_)
  rintro _ _ _ _ ⟨rfl,rfl,rfl⟩
  refine TV rfl rfl rfl (Val.cmp rfl rfl run_add) ?_
  obtain ⟨ha31,h⟩:=ite_no h
  refine TL.cons (TL.make kI rfl rfl Try.underlying23 inf3 rfl (Nat.le_of_ble_eq_true rfl) (Nat.le_of_ble_eq_true rfl) rfl rfl (fun W B=>rfl) ha31.1 (by have h_:=ha31.2; omega) (fun A32 c33=>?_))
  refine TV rfl rfl rfl (Val.assign rfl) ?_
  refine TL.nil ?_
  refine TQ.then_ ?_
  refine TC.seq ?_
  refine TC.region ?_
  refine TV rfl rfl rfl (Val.move rfl) ?_
  obtain ⟨hz35,h⟩:=ite_no h
  refine TV rfl rfl rfl (Val.cutOwn 0 Try.underlying23 fsz3 rfl rfl rfl hz35.1 hz35.2.1 hz35.2.2 rfl) ?_
  refine TV rfl rfl rfl (Val.move rfl) ?_
  refine TK.rowlen 7 rfl (fun hl36=>?_)
  refine TK.sel (Ls:=[Row kI 3 (.slice A21 n24 c22) a2,Row kI 3 (.slice A32 (List.replicate (IntKind.i64.wrap (y29 + 1)).toNat (0:Int)).length c33) (List.replicate (IntKind.i64.wrap (y29 + 1)).toNat (0:Int)),Blk b26 [VI a1.f0,.slice A17 a1.f1.length c18] 45,Blk b25 [VP b1 0] 56,Blk b1 [.slice A2 a0_0.length c3,VP b6 0,.slice A10 a0_2.length c11,VI a0_3,VI (IntKind.i64.wrap (a0_4 + 1)),.slice A14 a0_5.length c15,VI a0_6,VI a0_7,VI a0_8,VI a0_9] 58,Blk b6 [.slice A7 a0_1_0.length c8,VI a0_1_1,VI a0_1_2] 89,Row kI 3 (.slice A7 a0_1_0.length c8) a0_1_0,Row kI 3 (.slice A14 a0_5.length c15) a0_5]) [7,0,1,2,3,4,5,6] 8 rfl rfl rfl ?_
  refine TK.share (fun G37 e38 hs39 hb40=>?_)
  have rd41:Rd G37 kI A21 a2:=Rd.row hs39
  have le42:a2.length ≤ c22:=Row.le hs39
  obtain ⟨y43,hy44,h⟩:=bind_no h
  refine TL.cons (TL.copyInD (l:=(1:Int)) (h:=((List.replicate (IntKind.i64.wrap (y29 + 1)).toNat (0:Int)).length:Int)) (xs:=(List.replicate (IntKind.i64.wrap (y29 + 1)).toNat (0:Int))) (ys:=a2) rfl rfl Try.underlying23 fsz3 rfl rfl (by first | rfl | omega) hz35.1 hz35.2.1 hz35.2.2 rd41 hy44 (fun v45=>?_))
  refine TK.rowlen 0 rfl (fun hl46=>?_)
  rw [hl46]
  refine TL.nil ?_
  refine TQ.then_ ?_
  refine TC.seq ?_
  refine TC.region ?_
  refine TV rfl rfl rfl (Val.assign rfl) ?_
  refine TL.nil ?_
  refine TQ.then_ ?_
  refine TC.back hb40 ?_
  obtain ⟨o1541,ho1541,ko1541⟩:=bind_no h
  clear h
  refine TC.tail (fun a W=>False) (fun a W h=>h.elim) ?_
  ·
   refine TC.block ?_
   intro a W hF hO
   have hS:∃ (l1035:(List Int)) (x1039:Int) (l1040:(List Int)) (x1045:Int) (x1046:Int) (l1047:(List Int)) (x1051:Int) (x1052:Int) (x1053:Int) (l1054:(List Int)) (x1058:Int) (A1036:Option Addr) (c1037:Nat) (A1041:Option Addr) (c1042:Nat) (A1048:Option Addr) (c1049:Nat) (A1055:Option Addr) (c1056:Nat),trace_runner_call.l0 rec58 a0_0 a0_1_2 a0_6 a1 100000 l1035 x1039 l1040 x1045 x1046 l1047 x1051 x1052 x1053 l1054 x1058=some o1541∧Rd G kI A1041 l1040∧l1040.length ≤ c1042∧Fr (⟨79,[{ target:=.fn (.func 56) #[VP b25 0],args:=#[] }]⟩:Nd) a [(3,VP b25 0),(4,VP b26 0),(8,.slice A1036 l1035.length c1037),(9,VI x1039)]∧Own G (Blk b1 [.slice A2 a0_0.length c3,VP b6 0,.slice A1041 l1040.length c1042,VI x1045,VI x1046,.slice A1048 l1047.length c1049,VI a0_6,VI x1051,VI x1052,VI x1053] 58::Blk b25 [VP b1 0] 56::Blk b26 [VI a1.f0,.slice A17 a1.f1.length c18] 45::Blk b6 [.slice A1055 l1054.length c1056,VI x1058,VI a0_1_2] 89::Row kI 3 (.slice A1036 l1035.length c1037) l1035::Row kI 3 (.slice A1048 l1047.length c1049) l1047::Row kI 3 (.slice A1055 l1054.length c1056) l1054::Row kI 3 (.slice A21 n24 c22) a2::L) W:=by
    exact ⟨y43,0,a0_2,a0_3,IntKind.i64.wrap (a0_4 + 1),a0_5,a0_7,a0_8,a0_9,a0_1_0,a0_1_1,A32,c33,A10,c11,A14,c15,A7,c8,ho1541,hr12,hl13,hF.sub ⟨rfl,rfl,rfl,rfl,trivial⟩,hO.selT (Ls:=[Blk b1 [.slice A2 a0_0.length c3,VP b6 0,.slice A10 a0_2.length c11,VI a0_3,VI (IntKind.i64.wrap (a0_4 + 1)),.slice A14 a0_5.length c15,VI a0_6,VI a0_7,VI a0_8,VI a0_9] 58,Blk b25 [VP b1 0] 56,Blk b26 [VI a1.f0,.slice A17 a1.f1.length c18] 45,Blk b6 [.slice A7 a0_1_0.length c8,VI a0_1_1,VI a0_1_2] 89,Row kI 3 (.slice A32 y43.length c33) y43,Row kI 3 (.slice A14 a0_5.length c15) a0_5,Row kI 3 (.slice A7 a0_1_0.length c8) a0_1_0,Row kI 3 (.slice A21 n24 c22) a2]) [4,3,2,5,1,7,6,0] 8 rfl rfl rfl⟩
   clear hF hO ho1541
   refine TC.loop (fun n1542 a W=>∃ (l1035:(List Int)) (x1039:Int) (l1040:(List Int)) (x1045:Int) (x1046:Int) (l1047:(List Int)) (x1051:Int) (x1052:Int) (x1053:Int) (l1054:(List Int)) (x1058:Int) (A1036:Option Addr) (c1037:Nat) (A1041:Option Addr) (c1042:Nat) (A1048:Option Addr) (c1049:Nat) (A1055:Option Addr) (c1056:Nat),trace_runner_call.l0 rec58 a0_0 a0_1_2 a0_6 a1 n1542 l1035 x1039 l1040 x1045 x1046 l1047 x1051 x1052 x1053 l1054 x1058=some o1541∧Rd G kI A1041 l1040∧l1040.length ≤ c1042∧Fr (⟨79,[{ target:=.fn (.func 56) #[VP b25 0],args:=#[] }]⟩:Nd) a [(3,VP b25 0),(4,VP b26 0),(8,.slice A1036 l1035.length c1037),(9,VI x1039)]∧Own G (Blk b1 [.slice A2 a0_0.length c3,VP b6 0,.slice A1041 l1040.length c1042,VI x1045,VI x1046,.slice A1048 l1047.length c1049,VI a0_6,VI x1051,VI x1052,VI x1053] 58::Blk b25 [VP b1 0] 56::Blk b26 [VI a1.f0,.slice A17 a1.f1.length c18] 45::Blk b6 [.slice A1055 l1054.length c1056,VI x1058,VI a0_1_2] 89::Row kI 3 (.slice A1036 l1035.length c1037) l1035::Row kI 3 (.slice A1048 l1047.length c1049) l1047::Row kI 3 (.slice A1055 l1054.length c1056) l1054::Row kI 3 (.slice A21 n24 c22) a2::L) W) ?_ ?_ hS
   ·
    rintro a W ⟨l1035,x1039,l1040,x1045,x1046,l1047,x1051,x1052,x1053,l1054,x1058,A1036,c1037,A1041,c1042,A1048,c1049,A1055,c1056,h,hr1043,hl1044,hF,hO⟩
    exact none_no h
   ·
    clear hS
    rintro n1542 a W ⟨l1035,x1039,l1040,x1045,x1046,l1047,x1051,x1052,x1053,l1054,x1058,A1036,c1037,A1041,c1042,A1048,c1049,A1055,c1056,h,hr1043,hl1044,hF,hO⟩
    rw [trace_runner_call.l0] at h
    refine TC.use ?_ hF hO
    clear hF hO
    refine TC.block ?_
    refine TC.seq ?_
    refine TC.region ?_
    refine TV rfl rfl rfl (Val.fieldAddrB Try.underlying45 rfl fsz43 rfl rfl rfl) ?_
    refine TV rfl rfl rfl (Val.loadB 2 agg43 rfl rfl rfl) ?_
    refine TV rfl rfl rfl (Val.move rfl) ?_
    obtain ⟨y2320,hx2321,h⟩:=bind_no h
    obtain ⟨ad2322,cs2328,hA2323,hi2324,hj2325,hcl2326,hK2327⟩:=Rd.at hr19 hx2321
    obtain ⟨A2329,c2330,rfl,hr2331,hl2332⟩:=k42_openR hK2327
    refine TV rfl rfl rfl (Val.indexAddr Try.underlying43 fsz42 rfl hA2323 rfl hi2324 hj2325) ?_
    refine TV rfl rfl rfl (Val.loadsS (cs:=[.slice A2329 y2320.f0.length c2330,VI y2320.f1.f0,VI y2320.f1.f1,VI y2320.f1.f2,VI y2320.f1.f3]) agg42 fsz42 rfl rfl (Cl.sub (off:=0) (n:=5) hcl2326 rfl)) ?_
    refine TL.cons (TL.alloc (cs:=[.slice none 0 0,VI 0,VI 0,VI 0,VI 0]) rfl rfl zr42 rfl (fun b2333=>?_))
    refine TL.cons (TL.store 0 (ds:=[.slice A2329 y2320.f0.length c2330,VI y2320.f1.f0,VI y2320.f1.f1,VI y2320.f1.f2,VI y2320.f1.f3]) (cs':=[.slice A2329 y2320.f0.length c2330,VI y2320.f1.f0,VI y2320.f1.f1,VI y2320.f1.f2,VI y2320.f1.f3]) (L':=(Blk b2333 [.slice A2329 y2320.f0.length c2330,VI y2320.f1.f0,VI y2320.f1.f1,VI y2320.f1.f2,VI y2320.f1.f3] 42::Blk b1 [.slice A2 a0_0.length c3,VP b6 0,.slice A1041 l1040.length c1042,VI x1045,VI x1046,.slice A1048 l1047.length c1049,VI a0_6,VI x1051,VI x1052,VI x1053] 58::Blk b25 [VP b1 0] 56::Blk b26 [VI a1.f0,.slice A17 a1.f1.length c18] 45::Blk b6 [.slice A1055 l1054.length c1056,VI x1058,VI a0_1_2] 89::Row kI 3 (.slice A1036 l1035.length c1037) l1035::Row kI 3 (.slice A1048 l1047.length c1049) l1047::Row kI 3 (.slice A1055 l1054.length c1056) l1054::Row kI 3 (.slice A21 n24 c22) a2::L)) rfl fsz42 rfl rfl rfl rfl rfl (Nat.le_of_ble_eq_true rfl) rfl rfl ?_)
    refine TL.nil ?_
    refine TQ.then_ ?_
    refine TC.seq ?_
    refine TC.seq ?_
    refine TC.region ?_
    refine TV rfl rfl rfl (Val.loadB 2 agg56 rfl rfl rfl) ?_
    refine TV rfl rfl rfl (Val.loadsB 0 (cs:=[.slice A2329 y2320.f0.length c2330,VI y2320.f1.f0,VI y2320.f1.f1,VI y2320.f1.f2,VI y2320.f1.f3]) agg42 fsz42 rfl rfl rfl rfl) ?_
    refine TV rfl rfl rfl (Val.move rfl) ?_
    refine TK.sel (Ls:=[Blk b1 [.slice A2 a0_0.length c3,VP b6 0,.slice A1041 l1040.length c1042,VI x1045,VI x1046,.slice A1048 l1047.length c1049,VI a0_6,VI x1051,VI x1052,VI x1053] 58,Blk b6 [.slice A1055 l1054.length c1056,VI x1058,VI a0_1_2] 89,Row kI 3 (.slice A1055 l1054.length c1056) l1054,Row kI 3 (.slice A1048 l1047.length c1049) l1047,Row kI 3 (.slice A1036 l1035.length c1037) l1035,Blk b2333 [.slice A2329 y2320.f0.length c2330,VI y2320.f1.f0,VI y2320.f1.f1,VI y2320.f1.f2,VI y2320.f1.f3] 42,Blk b25 [VP b1 0] 56,Blk b26 [VI a1.f0,.slice A17 a1.f1.length c18] 45,Row kI 3 (.slice A21 n24 c22) a2]) [1,4,7,6,5,0,2,3,8] 9 rfl rfl rfl ?_
    obtain ⟨y2334,hy2335,h⟩:=bind_no h
    refine TL.cons (TL.callV (Lin:=[Blk b1 [.slice A2 a0_0.length c3,VP b6 0,.slice A1041 l1040.length c1042,VI x1045,VI x1046,.slice A1048 l1047.length c1049,VI a0_6,VI x1051,VI x1052,VI x1053] 58,Blk b6 [.slice A1055 l1054.length c1056,VI x1058,VI a0_1_2] 89,Row kI 3 (.slice A1055 l1054.length c1056) l1054,Row kI 3 (.slice A1048 l1047.length c1049) l1047,Row kI 3 (.slice A1036 l1035.length c1037) l1035]) (args:=[VP b1 0,.agg #[.slice A2329 y2320.f0.length c2330,VI y2320.f1.f0,VI y2320.f1.f1,VI y2320.f1.f2,VI y2320.f1.f3],.slice A1036 l1035.length c1037]) rfl rfl rfl hbd58 rfl rfl (ih58 (a0_0:=a0_0) (a0_1_0:=l1054) (a0_1_1:=x1058) (a0_1_2:=a0_1_2) (a0_2:=l1040) (a0_3:=x1045) (a0_4:=x1046) (a0_5:=l1047) (a0_6:=a0_6) (a0_7:=x1051) (a0_8:=x1052) (a0_9:=x1053) (a1:=y2320) (a2:=l1035) hr4 hl5 hr1043 hl1044 hr2331 hl2332 hy2335) rfl ?_)
    rintro _ _ _ _ ⟨rfl,A2336,c2337,A2339,c2340,A2343,c2344,rfl,rfl,hr2341,hl2342⟩
    refine TK.rowlen 4 rfl (fun hl2346=>?_)
    rw [hl2346]
    refine TV rfl rfl rfl (Val.assign rfl) ?_
    refine TL.nil ?_
    refine TQ.then_ ?_
    refine TC.seq ?_
    refine TC.region ?_
    refine TV rfl rfl rfl (Val.move rfl) ?_
    refine TV rfl rfl rfl (Val.cmp rfl rfl run_neq) ?_
    refine TL.nil ?_
    refine TQ.then_ ?_
    refine TC.cond_b rfl h (fun hc2348 h=>?_) (fun hc2348 h=>?_)
    ·
     refine TC.seq ?_
     refine TC.region ?_
     refine TV rfl rfl rfl (Val.move rfl) ?_
     refine TV rfl rfl rfl (Val.assign rfl) ?_
     refine TV rfl rfl rfl (Val.assign rfl) ?_
     refine TL.nil ?_
     refine TQ.then_ ?_
     refine TC.ret ?_
     refine TQ.thenR ?_
     refine TQ.inBR ?_
     refine TQ.thenR ?_
     refine TQ.inBR ?_
     refine TQ.thenR ?_
     refine TQ.finL (ds:=((⟨79,[{ target:=.fn (.func 56) #[VP b25 0],args:=#[] }]⟩:Nd)).D) (.inl rfl) rfl (fun a_ hx2349=>?_)
     refine Lv.fn (args:=[VP b25 0]) (e':=[(0,VP b25 0)]) 8 hbd56 Try.func56 rfl Try.ntmps56 rfl rfl rfl (Nat.le_of_ble_eq_true rfl) ?_
     refine TC.region ?_
     refine TV rfl rfl rfl (Val.loadB 6 agg56 rfl rfl rfl) ?_
     refine TV rfl rfl rfl (Val.nilCheck rfl) ?_
     refine TV rfl rfl rfl (Val.fieldAddrB Try.underlying58 rfl fsz3 rfl rfl rfl) ?_
     refine TV rfl rfl rfl (Val.loadB 0 agg3 rfl rfl rfl) ?_
     refine TV rfl rfl rfl (Val.cmp rfl rfl run_sub) ?_
     refine TV rfl rfl rfl (Val.nilCheck rfl) ?_
     refine TV rfl rfl rfl (Val.fieldAddrB Try.underlying58 rfl fsz3 rfl rfl rfl) ?_
     refine TL.cons (TL.store 0 (ds:=[VI (IntKind.i64.wrap (y2334.2.2.2.2.2.1 - 1))]) (cs':=[.slice A2 a0_0.length c3,VP b6 0,.slice A2339 y2334.2.2.2.1.length c2340,VI y2334.2.2.2.2.1,VI (IntKind.i64.wrap (y2334.2.2.2.2.2.1 - 1)),.slice A2343 y2334.2.2.2.2.2.2.1.length c2344,VI a0_6,VI y2334.2.2.2.2.2.2.2.1,VI y2334.2.2.2.2.2.2.2.2.1,VI y2334.2.2.2.2.2.2.2.2.2.1]) (L':=(Blk b1 [.slice A2 a0_0.length c3,VP b6 0,.slice A2339 y2334.2.2.2.1.length c2340,VI y2334.2.2.2.2.1,VI (IntKind.i64.wrap (y2334.2.2.2.2.2.1 - 1)),.slice A2343 y2334.2.2.2.2.2.2.1.length c2344,VI a0_6,VI y2334.2.2.2.2.2.2.2.1,VI y2334.2.2.2.2.2.2.2.2.1,VI y2334.2.2.2.2.2.2.2.2.2.1] 58::Blk b6 [.slice A2336 y2334.2.1.length c2337,VI y2334.2.2.1,VI a0_1_2] 89::Row kI 3 (.slice A2336 y2334.2.1.length c2337) y2334.2.1::Row kI 3 (.slice A2343 y2334.2.2.2.2.2.2.1.length c2344) y2334.2.2.2.2.2.2.1::Row kI 3 (.slice A1036 y2334.2.2.2.2.2.2.2.2.2.2.length c1037) y2334.2.2.2.2.2.2.2.2.2.2::Blk b2333 [.slice A2329 y2320.f0.length c2330,VI y2320.f1.f0,VI y2320.f1.f1,VI y2320.f1.f2,VI y2320.f1.f3] 42::Blk b25 [VP b1 0] 56::Blk b26 [VI a1.f0,.slice A17 a1.f1.length c18] 45::Row kI 3 (.slice A21 n24 c22) a2::L)) rfl fsz3 rfl rfl rfl rfl rfl (Nat.le_of_ble_eq_true rfl) rfl rfl ?_)
     refine TL.nil ?_
     refine TQ.finD (.inr rfl) rfl Try.results56 .nil ?_
     obtain rfl:=Option.some.inj h
     have h:=ko1541
     obtain rfl:=Option.some.inj h
     exact Lv.nil hx2349 Try.results28 (.tmp rfl (.tmp rfl .nil)) rfl (FRel.mk (Ls:=[Blk b1 [.slice A2 a0_0.length c3,VP b6 0,.slice A2339 y2334.2.2.2.1.length c2340,VI y2334.2.2.2.2.1,VI (IntKind.i64.wrap (y2334.2.2.2.2.2.1 - 1)),.slice A2343 y2334.2.2.2.2.2.2.1.length c2344,VI a0_6,VI y2334.2.2.2.2.2.2.2.1,VI y2334.2.2.2.2.2.2.2.2.1,VI y2334.2.2.2.2.2.2.2.2.2.1] 58,Blk b6 [.slice A2336 y2334.2.1.length c2337,VI y2334.2.2.1,VI a0_1_2] 89,Row kI 3 (.slice A2336 y2334.2.1.length c2337) y2334.2.1,Row kI 3 (.slice A2343 y2334.2.2.2.2.2.2.1.length c2344) y2334.2.2.2.2.2.2.1,Row kI 3 (.slice A21 n24 c22) a2]) [0,1,2,3,8] 9 (Gd.le.refl _) rfl rfl rfl ⟨rfl,A2336,c2337,A2339,c2340,A2343,c2344,rfl,rfl,hr2341,hl2342⟩)
    ·
     refine TC.skip ?_
     refine TQ.then_ ?_
     refine TC.seq ?_
     refine TC.region ?_
     refine TV rfl rfl rfl (Val.fieldAddrB Try.underlying42 rfl fsz40 rfl rfl rfl) ?_
     refine TV rfl rfl rfl (Val.loadsB 5 (cs:=[VI y2320.f1.f0,VI y2320.f1.f1,VI y2320.f1.f2,VI y2320.f1.f3]) agg40 fsz40 rfl rfl rfl rfl) ?_
     refine TL.cons (TL.alloc (cs:=[VI 0,VI 0,VI 0,VI 0]) rfl rfl zr40 rfl (fun b2350=>?_))
     refine TL.cons (TL.store 0 (ds:=[VI y2320.f1.f0,VI y2320.f1.f1,VI y2320.f1.f2,VI y2320.f1.f3]) (cs':=[VI y2320.f1.f0,VI y2320.f1.f1,VI y2320.f1.f2,VI y2320.f1.f3]) (L':=(Blk b2350 [VI y2320.f1.f0,VI y2320.f1.f1,VI y2320.f1.f2,VI y2320.f1.f3] 40::Blk b1 [.slice A2 a0_0.length c3,VP b6 0,.slice A2339 y2334.2.2.2.1.length c2340,VI y2334.2.2.2.2.1,VI y2334.2.2.2.2.2.1,.slice A2343 y2334.2.2.2.2.2.2.1.length c2344,VI a0_6,VI y2334.2.2.2.2.2.2.2.1,VI y2334.2.2.2.2.2.2.2.2.1,VI y2334.2.2.2.2.2.2.2.2.2.1] 58::Blk b6 [.slice A2336 y2334.2.1.length c2337,VI y2334.2.2.1,VI a0_1_2] 89::Row kI 3 (.slice A2336 y2334.2.1.length c2337) y2334.2.1::Row kI 3 (.slice A2343 y2334.2.2.2.2.2.2.1.length c2344) y2334.2.2.2.2.2.2.1::Row kI 3 (.slice A1036 y2334.2.2.2.2.2.2.2.2.2.2.length c1037) y2334.2.2.2.2.2.2.2.2.2.2::Blk b2333 [.slice A2329 y2320.f0.length c2330,VI y2320.f1.f0,VI y2320.f1.f1,VI y2320.f1.f2,VI y2320.f1.f3] 42::Blk b25 [VP b1 0] 56::Blk b26 [VI a1.f0,.slice A17 a1.f1.length c18] 45::Row kI 3 (.slice A21 n24 c22) a2::L)) rfl fsz40 rfl rfl rfl rfl rfl (Nat.le_of_ble_eq_true rfl) rfl rfl ?_)
     refine TL.nil ?_
     refine TQ.then_ ?_
     refine TC.block ?_
     refine TC.seq ?_
     refine TC.region ?_
     refine TV rfl rfl rfl (Val.fieldAddrB Try.underlying40 rfl fsz3 rfl rfl rfl) ?_
     refine TV rfl rfl rfl (Val.loadB 0 agg3 rfl rfl rfl) ?_
     refine TV rfl rfl rfl (Val.cmp rfl rfl run_eql) ?_
     refine TV rfl rfl rfl (Val.assign rfl) ?_
     refine TL.nil ?_
     refine TQ.then_ ?_
     refine TC.cond_p rfl h (fun hc2562 h=>?_) (fun hc2562 h=>?_)
     ·
      refine TC.seq ?_
      refine TC.region ?_
      refine TV rfl rfl rfl (Val.move rfl) ?_
      refine TV rfl rfl rfl (Val.fieldAddrB Try.underlying40 rfl fsz3 rfl rfl rfl) ?_
      refine TV rfl rfl rfl (Val.loadB 0 agg3 rfl rfl rfl) ?_
      refine TK.sel (Ls:=[Row kI 3 (.slice A1036 y2334.2.2.2.2.2.2.2.2.2.2.length c1037) y2334.2.2.2.2.2.2.2.2.2.2,Blk b2350 [VI y2320.f1.f0,VI y2320.f1.f1,VI y2320.f1.f2,VI y2320.f1.f3] 40,Blk b1 [.slice A2 a0_0.length c3,VP b6 0,.slice A2339 y2334.2.2.2.1.length c2340,VI y2334.2.2.2.2.1,VI y2334.2.2.2.2.2.1,.slice A2343 y2334.2.2.2.2.2.2.1.length c2344,VI a0_6,VI y2334.2.2.2.2.2.2.2.1,VI y2334.2.2.2.2.2.2.2.2.1,VI y2334.2.2.2.2.2.2.2.2.2.1] 58,Blk b6 [.slice A2336 y2334.2.1.length c2337,VI y2334.2.2.1,VI a0_1_2] 89,Row kI 3 (.slice A2336 y2334.2.1.length c2337) y2334.2.1,Row kI 3 (.slice A2343 y2334.2.2.2.2.2.2.1.length c2344) y2334.2.2.2.2.2.2.1,Blk b2333 [.slice A2329 y2320.f0.length c2330,VI y2320.f1.f0,VI y2320.f1.f1,VI y2320.f1.f2,VI y2320.f1.f3] 42,Blk b25 [VP b1 0] 56,Blk b26 [VI a1.f0,.slice A17 a1.f1.length c18] 45,Row kI 3 (.slice A21 n24 c22) a2]) [5,0,1,2,3,4,6,7,8,9] 10 rfl rfl rfl ?_
      refine TK.share (fun G2563 e2564 hs2565 hb2566=>?_)
      have rd2567:Rd G2563 kI A1036 y2334.2.2.2.2.2.2.2.2.2.2:=Rd.row hs2565
      have le2568:y2334.2.2.2.2.2.2.2.2.2.2.length ≤ c1037:=Row.le hs2565
      obtain ⟨y2569,hx2570,h⟩:=bind_no h
      obtain ⟨ad2571,cs2577,hA2572,hi2573,hj2574,hcl2575,hK2576⟩:=Rd.at rd2567 hx2570
      obtain rfl:=RdK.int hK2576
      refine TV rfl rfl rfl (Val.indexAddr Try.underlying23 fsz3 rfl hA2572 rfl hi2573 hj2574) ?_
      refine TV rfl rfl rfl (Val.loadS agg3 rfl (hcl2575 0 _ rfl)) ?_
      refine TV rfl rfl rfl (Val.assign rfl) ?_
      refine TV rfl rfl rfl (Val.assign rfl) ?_
      refine TL.nil ?_
      refine TQ.then_ ?_
      refine TC.ret ?_
      refine TQ.inBR ?_
      refine TQ.inBR ?_
      refine TQ.thenR ?_
      refine TQ.inBR ?_
      refine TQ.thenR ?_
      refine TQ.back hb2566 ?_
      refine TQ.finL (ds:=((⟨79,[{ target:=.fn (.func 56) #[VP b25 0],args:=#[] }]⟩:Nd)).D) (.inl rfl) rfl (fun a_ hx2578=>?_)
      refine Lv.fn (args:=[VP b25 0]) (e':=[(0,VP b25 0)]) 8 hbd56 Try.func56 rfl Try.ntmps56 rfl rfl rfl (Nat.le_of_ble_eq_true rfl) ?_
      refine TC.region ?_
      refine TV rfl rfl rfl (Val.loadB 7 agg56 rfl rfl rfl) ?_
      refine TV rfl rfl rfl (Val.nilCheck rfl) ?_
      refine TV rfl rfl rfl (Val.fieldAddrB Try.underlying58 rfl fsz3 rfl rfl rfl) ?_
      refine TV rfl rfl rfl (Val.loadB 2 agg3 rfl rfl rfl) ?_
      refine TV rfl rfl rfl (Val.cmp rfl rfl run_sub) ?_
      refine TV rfl rfl rfl (Val.nilCheck rfl) ?_
      refine TV rfl rfl rfl (Val.fieldAddrB Try.underlying58 rfl fsz3 rfl rfl rfl) ?_
      refine TL.cons (TL.store 2 (ds:=[VI (IntKind.i64.wrap (y2334.2.2.2.2.2.1 - 1))]) (cs':=[.slice A2 a0_0.length c3,VP b6 0,.slice A2339 y2334.2.2.2.1.length c2340,VI y2334.2.2.2.2.1,VI (IntKind.i64.wrap (y2334.2.2.2.2.2.1 - 1)),.slice A2343 y2334.2.2.2.2.2.2.1.length c2344,VI a0_6,VI y2334.2.2.2.2.2.2.2.1,VI y2334.2.2.2.2.2.2.2.2.1,VI y2334.2.2.2.2.2.2.2.2.2.1]) (L':=(Row kI 3 (.slice A1036 y2334.2.2.2.2.2.2.2.2.2.2.length c1037) y2334.2.2.2.2.2.2.2.2.2.2::Blk b2350 [VI y2320.f1.f0,VI y2320.f1.f1,VI y2320.f1.f2,VI y2320.f1.f3] 40::Blk b1 [.slice A2 a0_0.length c3,VP b6 0,.slice A2339 y2334.2.2.2.1.length c2340,VI y2334.2.2.2.2.1,VI (IntKind.i64.wrap (y2334.2.2.2.2.2.1 - 1)),.slice A2343 y2334.2.2.2.2.2.2.1.length c2344,VI a0_6,VI y2334.2.2.2.2.2.2.2.1,VI y2334.2.2.2.2.2.2.2.2.1,VI y2334.2.2.2.2.2.2.2.2.2.1] 58::Blk b6 [.slice A2336 y2334.2.1.length c2337,VI y2334.2.2.1,VI a0_1_2] 89::Row kI 3 (.slice A2336 y2334.2.1.length c2337) y2334.2.1::Row kI 3 (.slice A2343 y2334.2.2.2.2.2.2.1.length c2344) y2334.2.2.2.2.2.2.1::Blk b2333 [.slice A2329 y2320.f0.length c2330,VI y2320.f1.f0,VI y2320.f1.f1,VI y2320.f1.f2,VI y2320.f1.f3] 42::Blk b25 [VP b1 0] 56::Blk b26 [VI a1.f0,.slice A17 a1.f1.length c18] 45::Row kI 3 (.slice A21 n24 c22) a2::L)) rfl fsz3 rfl rfl rfl rfl rfl (Nat.le_of_ble_eq_true rfl) rfl rfl ?_)
      refine TL.nil ?_
      refine TQ.finD (.inr rfl) rfl Try.results56 .nil ?_
      obtain rfl:=Option.some.inj h
      have h:=ko1541
      obtain rfl:=Option.some.inj h
      exact Lv.nil hx2578 Try.results28 (.tmp rfl (.tmp rfl .nil)) rfl (FRel.mk (Ls:=[Blk b1 [.slice A2 a0_0.length c3,VP b6 0,.slice A2339 y2334.2.2.2.1.length c2340,VI y2334.2.2.2.2.1,VI (IntKind.i64.wrap (y2334.2.2.2.2.2.1 - 1)),.slice A2343 y2334.2.2.2.2.2.2.1.length c2344,VI a0_6,VI y2334.2.2.2.2.2.2.2.1,VI y2334.2.2.2.2.2.2.2.2.1,VI y2334.2.2.2.2.2.2.2.2.2.1] 58,Blk b6 [.slice A2336 y2334.2.1.length c2337,VI y2334.2.2.1,VI a0_1_2] 89,Row kI 3 (.slice A2336 y2334.2.1.length c2337) y2334.2.1,Row kI 3 (.slice A2343 y2334.2.2.2.2.2.2.1.length c2344) y2334.2.2.2.2.2.2.1,Row kI 3 (.slice A21 n24 c22) a2]) [2,3,4,5,9] 10 (Gd.le.refl _) rfl rfl rfl ⟨rfl,A2336,c2337,A2339,c2340,A2343,c2344,rfl,rfl,hr2341,hl2342⟩)
     ·
      refine TC.seq ?_
      refine TC.region ?_
      refine TV rfl rfl rfl (Val.fieldAddrB Try.underlying40 rfl fsz3 rfl rfl rfl) ?_
      refine TV rfl rfl rfl (Val.loadB 0 agg3 rfl rfl rfl) ?_
      refine TV rfl rfl rfl (Val.cmp rfl rfl run_eql) ?_
      refine TV rfl rfl rfl (Val.assign rfl) ?_
      refine TL.nil ?_
      refine TQ.then_ ?_
      refine TC.cond_p rfl h (fun hc2619 h=>?_) (fun hc2619 h=>?_)
      ·
       refine TC.seq ?_
       refine TC.regionAny [] [0,1,2,3] mixed (by kernel_rfl) ?_
       refine TA.take 0 rfl (by kernel_rfl) rfl (PQ.then_ (PQ.inB (PQ.inB (PQ.then_ (PQ.inB (PQ.then_ PQ.body)))))) rfl (Val.fieldAddrB Try.underlying40 rfl fsz3 rfl rfl rfl) (fun W hO=>hO) ?_
       refine TA.take 1 rfl (by kernel_rfl) rfl (PQ.then_ (PQ.inB (PQ.inB (PQ.then_ (PQ.inB (PQ.then_ PQ.body)))))) rfl (Val.loadB 0 agg3 rfl rfl rfl) (fun W hO=>hO) ?_
       refine TA.take 2 rfl (by kernel_rfl) rfl (PQ.then_ (PQ.inB (PQ.inB (PQ.then_ (PQ.inB (PQ.then_ PQ.body)))))) rfl (Val.assign rfl) (fun W hO=>hO) ?_
       refine TA.take 3 rfl (by kernel_rfl) rfl (PQ.then_ (PQ.inB (PQ.inB (PQ.then_ (PQ.inB (PQ.then_ PQ.body)))))) rfl (Val.assign rfl) (fun W hO=>hO) ?_
       refine TA.done (by kernel_rfl) ?_
       refine TQ.then_ ?_
       refine TC.ret ?_
       refine TQ.inBR ?_
       refine TQ.inBR ?_
       refine TQ.thenR ?_
       refine TQ.inBR ?_
       refine TQ.thenR ?_
       refine TQ.finL (ds:=((⟨79,[{ target:=.fn (.func 56) #[VP b25 0],args:=#[] }]⟩:Nd)).D) (.inl rfl) rfl (fun a_ hx2620=>?_)
       refine Lv.fn (args:=[VP b25 0]) (e':=[(0,VP b25 0)]) 8 hbd56 Try.func56 rfl Try.ntmps56 rfl rfl rfl (Nat.le_of_ble_eq_true rfl) ?_
       refine TC.region ?_
       refine TV rfl rfl rfl (Val.loadB 7 agg56 rfl rfl rfl) ?_
       refine TV rfl rfl rfl (Val.nilCheck rfl) ?_
       refine TV rfl rfl rfl (Val.fieldAddrB Try.underlying58 rfl fsz3 rfl rfl rfl) ?_
       refine TV rfl rfl rfl (Val.loadB 1 agg3 rfl rfl rfl) ?_
       refine TV rfl rfl rfl (Val.cmp rfl rfl run_sub) ?_
       refine TV rfl rfl rfl (Val.nilCheck rfl) ?_
       refine TV rfl rfl rfl (Val.fieldAddrB Try.underlying58 rfl fsz3 rfl rfl rfl) ?_
       refine TL.cons (TL.store 1 (ds:=[VI (IntKind.i64.wrap (y2334.2.2.2.2.2.1 - 1))]) (cs':=[.slice A2 a0_0.length c3,VP b6 0,.slice A2339 y2334.2.2.2.1.length c2340,VI y2334.2.2.2.2.1,VI (IntKind.i64.wrap (y2334.2.2.2.2.2.1 - 1)),.slice A2343 y2334.2.2.2.2.2.2.1.length c2344,VI a0_6,VI y2334.2.2.2.2.2.2.2.1,VI y2334.2.2.2.2.2.2.2.2.1,VI y2334.2.2.2.2.2.2.2.2.2.1]) (L':=(Blk b2350 [VI y2320.f1.f0,VI y2320.f1.f1,VI y2320.f1.f2,VI y2320.f1.f3] 40::Blk b1 [.slice A2 a0_0.length c3,VP b6 0,.slice A2339 y2334.2.2.2.1.length c2340,VI y2334.2.2.2.2.1,VI (IntKind.i64.wrap (y2334.2.2.2.2.2.1 - 1)),.slice A2343 y2334.2.2.2.2.2.2.1.length c2344,VI a0_6,VI y2334.2.2.2.2.2.2.2.1,VI y2334.2.2.2.2.2.2.2.2.1,VI y2334.2.2.2.2.2.2.2.2.2.1] 58::Blk b6 [.slice A2336 y2334.2.1.length c2337,VI y2334.2.2.1,VI a0_1_2] 89::Row kI 3 (.slice A2336 y2334.2.1.length c2337) y2334.2.1::Row kI 3 (.slice A2343 y2334.2.2.2.2.2.2.1.length c2344) y2334.2.2.2.2.2.2.1::Row kI 3 (.slice A1036 y2334.2.2.2.2.2.2.2.2.2.2.length c1037) y2334.2.2.2.2.2.2.2.2.2.2::Blk b2333 [.slice A2329 y2320.f0.length c2330,VI y2320.f1.f0,VI y2320.f1.f1,VI y2320.f1.f2,VI y2320.f1.f3] 42::Blk b25 [VP b1 0] 56::Blk b26 [VI a1.f0,.slice A17 a1.f1.length c18] 45::Row kI 3 (.slice A21 n24 c22) a2::L)) rfl fsz3 rfl rfl rfl rfl rfl (Nat.le_of_ble_eq_true rfl) rfl rfl ?_)
       refine TL.nil ?_
       refine TQ.finD (.inr rfl) rfl Try.results56 .nil ?_
       obtain rfl:=Option.some.inj h
       have h:=ko1541
       obtain rfl:=Option.some.inj h
       exact Lv.nil hx2620 Try.results28 (.tmp rfl (.tmp rfl .nil)) rfl (FRel.mk (Ls:=[Blk b1 [.slice A2 a0_0.length c3,VP b6 0,.slice A2339 y2334.2.2.2.1.length c2340,VI y2334.2.2.2.2.1,VI (IntKind.i64.wrap (y2334.2.2.2.2.2.1 - 1)),.slice A2343 y2334.2.2.2.2.2.2.1.length c2344,VI a0_6,VI y2334.2.2.2.2.2.2.2.1,VI y2334.2.2.2.2.2.2.2.2.1,VI y2334.2.2.2.2.2.2.2.2.2.1] 58,Blk b6 [.slice A2336 y2334.2.1.length c2337,VI y2334.2.2.1,VI a0_1_2] 89,Row kI 3 (.slice A2336 y2334.2.1.length c2337) y2334.2.1,Row kI 3 (.slice A2343 y2334.2.2.2.2.2.2.1.length c2344) y2334.2.2.2.2.2.2.1,Row kI 3 (.slice A21 n24 c22) a2]) [1,2,3,4,9] 10 (Gd.le.refl _) rfl rfl rfl ⟨rfl,A2336,c2337,A2339,c2340,A2343,c2344,rfl,rfl,hr2341,hl2342⟩)
      ·
       refine TC.seq ?_
       obtain ⟨j2640,hj2640,h⟩:=jn_no h
       refine TC.tail (fun a W=>∃ (x2639:Bool),j2640 x2639=some o1541∧Fr (⟨79,[{ target:=.fn (.func 56) #[VP b25 0],args:=#[] }]⟩:Nd) a [(3,VP b25 0),(4,VP b26 0),(8,.slice A1036 y2334.2.2.2.2.2.2.2.2.2.2.length c1037),(12,VP b2350 0),(65,.bool x2639)]∧Own G (Blk b1 [.slice A2 a0_0.length c3,VP b6 0,.slice A2339 y2334.2.2.2.1.length c2340,VI y2334.2.2.2.2.1,VI y2334.2.2.2.2.2.1,.slice A2343 y2334.2.2.2.2.2.2.1.length c2344,VI a0_6,VI y2334.2.2.2.2.2.2.2.1,VI y2334.2.2.2.2.2.2.2.2.1,VI y2334.2.2.2.2.2.2.2.2.2.1] 58::Blk b2350 [VI y2320.f1.f0,VI y2320.f1.f1,VI y2320.f1.f2,VI y2320.f1.f3] 40::Blk b25 [VP b1 0] 56::Blk b26 [VI a1.f0,.slice A17 a1.f1.length c18] 45::Blk b6 [.slice A2336 y2334.2.1.length c2337,VI y2334.2.2.1,VI a0_1_2] 89::Row kI 3 (.slice A1036 y2334.2.2.2.2.2.2.2.2.2.2.length c1037) y2334.2.2.2.2.2.2.2.2.2.2::Row kI 3 (.slice A2343 y2334.2.2.2.2.2.2.1.length c2344) y2334.2.2.2.2.2.2.1::Row kI 3 (.slice A2336 y2334.2.1.length c2337) y2334.2.1::Row kI 3 (.slice A21 n24 c22) a2::L) W) ?_ ?_
       ·
        rintro a W ⟨x2639,h,hF,hO⟩
        rw [hj2640] at h
        refine TQ.use ?_ hF hO
        clear hF hO
        refine TQ.then_ ?_
        refine TC.cond_b rfl h (fun hc2642 h=>?_) (fun hc2642 h=>?_)
        ·
         refine TC.region ?_
         refine TV rfl rfl rfl (Val.fieldAddrB Try.underlying40 rfl fsz3 rfl rfl rfl) ?_
         refine TV rfl rfl rfl (Val.loadB 1 agg3 rfl rfl rfl) ?_
         refine TV rfl rfl rfl (Val.assign rfl) ?_
         refine TL.nil ?_
         refine TQ.inB ?_
         refine TQ.inB ?_
         exact fun a W hF hO=>⟨y2334.2.2.2.2.2.2.2.2.2.2,y2320.f1.f2,y2334.2.2.2.1,y2334.2.2.2.2.1,y2334.2.2.2.2.2.1,y2334.2.2.2.2.2.2.1,y2334.2.2.2.2.2.2.2.1,y2334.2.2.2.2.2.2.2.2.1,y2334.2.2.2.2.2.2.2.2.2.1,y2334.2.1,y2334.2.2.1,A1036,c1037,A2339,c2340,A2343,c2344,A2336,c2337,h,hr2341,hl2342,hF.sub ⟨rfl,rfl,rfl,rfl,trivial⟩,hO.selT (Ls:=[Blk b1 [.slice A2 a0_0.length c3,VP b6 0,.slice A2339 y2334.2.2.2.1.length c2340,VI y2334.2.2.2.2.1,VI y2334.2.2.2.2.2.1,.slice A2343 y2334.2.2.2.2.2.2.1.length c2344,VI a0_6,VI y2334.2.2.2.2.2.2.2.1,VI y2334.2.2.2.2.2.2.2.2.1,VI y2334.2.2.2.2.2.2.2.2.2.1] 58,Blk b25 [VP b1 0] 56,Blk b26 [VI a1.f0,.slice A17 a1.f1.length c18] 45,Blk b6 [.slice A2336 y2334.2.1.length c2337,VI y2334.2.2.1,VI a0_1_2] 89,Row kI 3 (.slice A1036 y2334.2.2.2.2.2.2.2.2.2.2.length c1037) y2334.2.2.2.2.2.2.2.2.2.2,Row kI 3 (.slice A2343 y2334.2.2.2.2.2.2.1.length c2344) y2334.2.2.2.2.2.2.1,Row kI 3 (.slice A2336 y2334.2.1.length c2337) y2334.2.1,Row kI 3 (.slice A21 n24 c22) a2]) [0,2,3,4,5,6,7,8] 9 rfl rfl rfl⟩
        ·
         refine TC.region ?_
         refine TV rfl rfl rfl (Val.fieldAddrB Try.underlying40 rfl fsz3 rfl rfl rfl) ?_
         refine TV rfl rfl rfl (Val.loadB 1 agg3 rfl rfl rfl) ?_
         refine TV rfl rfl rfl (Val.assign rfl) ?_
         refine TL.nil ?_
         refine TQ.inB ?_
         refine TQ.inB ?_
         exact fun a W hF hO=>⟨y2334.2.2.2.2.2.2.2.2.2.2,y2320.f1.f3,y2334.2.2.2.1,y2334.2.2.2.2.1,y2334.2.2.2.2.2.1,y2334.2.2.2.2.2.2.1,y2334.2.2.2.2.2.2.2.1,y2334.2.2.2.2.2.2.2.2.1,y2334.2.2.2.2.2.2.2.2.2.1,y2334.2.1,y2334.2.2.1,A1036,c1037,A2339,c2340,A2343,c2344,A2336,c2337,h,hr2341,hl2342,hF.sub ⟨rfl,rfl,rfl,rfl,trivial⟩,hO.selT (Ls:=[Blk b1 [.slice A2 a0_0.length c3,VP b6 0,.slice A2339 y2334.2.2.2.1.length c2340,VI y2334.2.2.2.2.1,VI y2334.2.2.2.2.2.1,.slice A2343 y2334.2.2.2.2.2.2.1.length c2344,VI a0_6,VI y2334.2.2.2.2.2.2.2.1,VI y2334.2.2.2.2.2.2.2.2.1,VI y2334.2.2.2.2.2.2.2.2.2.1] 58,Blk b25 [VP b1 0] 56,Blk b26 [VI a1.f0,.slice A17 a1.f1.length c18] 45,Blk b6 [.slice A2336 y2334.2.1.length c2337,VI y2334.2.2.1,VI a0_1_2] 89,Row kI 3 (.slice A1036 y2334.2.2.2.2.2.2.2.2.2.2.length c1037) y2334.2.2.2.2.2.2.2.2.2.2,Row kI 3 (.slice A2343 y2334.2.2.2.2.2.2.1.length c2344) y2334.2.2.2.2.2.2.1,Row kI 3 (.slice A2336 y2334.2.1.length c2337) y2334.2.1,Row kI 3 (.slice A21 n24 c22) a2]) [0,2,3,4,5,6,7,8] 9 rfl rfl rfl⟩
       ·
        refine TC.region ?_
        refine TV rfl rfl rfl (Val.fieldAddrB Try.underlying40 rfl fsz3 rfl rfl rfl) ?_
        refine TV rfl rfl rfl (Val.loadB 0 agg3 rfl rfl rfl) ?_
        refine TV rfl rfl rfl (Val.cmp rfl rfl run_eql) ?_
        refine TV rfl rfl rfl (Val.move rfl) ?_
        refine TK.split (p:=y2320.f1.f0=1) h (fun hg2643 h=>?_) (fun hg2643 h=>?_)
        ·
         have hk2644:decide (y2320.f1.f0=1)=true:=decide_eq_true hg2643
         refine TL.cons (TL.not (Wt.no rfl rfl rfl hk2644) rfl ?_)
         refine TL.cons (TL.not (Wt.no rfl rfl rfl hk2644) rfl ?_)
         refine TL.cons (TL.not (Wt.no rfl rfl rfl hk2644) rfl ?_)
         refine TL.cons (TL.not (Wt.no rfl rfl rfl hk2644) rfl ?_)
         refine TL.cons (TL.not (Wt.no rfl rfl rfl hk2644) rfl ?_)
         refine TL.cons (TL.not (Wt.no rfl rfl rfl hk2644) rfl ?_)
         refine TV rfl rfl rfl (Val.pickY rfl hk2644 rfl) ?_
         refine TV rfl rfl rfl (Val.assign rfl) ?_
         refine TL.nil ?_
         exact fun a W hF hO=>⟨true,h,hF.sub ⟨rfl,rfl,rfl,rfl,rfl,trivial⟩,hO.selT (Ls:=[Blk b1 [.slice A2 a0_0.length c3,VP b6 0,.slice A2339 y2334.2.2.2.1.length c2340,VI y2334.2.2.2.2.1,VI y2334.2.2.2.2.2.1,.slice A2343 y2334.2.2.2.2.2.2.1.length c2344,VI a0_6,VI y2334.2.2.2.2.2.2.2.1,VI y2334.2.2.2.2.2.2.2.2.1,VI y2334.2.2.2.2.2.2.2.2.2.1] 58,Blk b2350 [VI y2320.f1.f0,VI y2320.f1.f1,VI y2320.f1.f2,VI y2320.f1.f3] 40,Blk b25 [VP b1 0] 56,Blk b26 [VI a1.f0,.slice A17 a1.f1.length c18] 45,Blk b6 [.slice A2336 y2334.2.1.length c2337,VI y2334.2.2.1,VI a0_1_2] 89,Row kI 3 (.slice A1036 y2334.2.2.2.2.2.2.2.2.2.2.length c1037) y2334.2.2.2.2.2.2.2.2.2.2,Row kI 3 (.slice A2343 y2334.2.2.2.2.2.2.1.length c2344) y2334.2.2.2.2.2.2.1,Row kI 3 (.slice A2336 y2334.2.1.length c2337) y2334.2.1,Row kI 3 (.slice A21 n24 c22) a2]) [1,0,7,8,2,5,4,3,9] 10 rfl rfl rfl⟩
        ·
         have hk2645:decide (y2320.f1.f0=1)=false:=decide_eq_false hg2643
         refine TV (Wt.yes rfl rfl rfl hk2645) rfl rfl (Val.move rfl) ?_
         refine TV (Wt.yes rfl rfl rfl hk2645) rfl rfl (Val.fieldAddrB Try.underlying40 rfl fsz3 rfl rfl rfl) ?_
         refine TV (Wt.yes rfl rfl rfl hk2645) rfl rfl (Val.loadB 0 agg3 rfl rfl rfl) ?_
         refine TK.sel (Ls:=[Row kI 3 (.slice A1036 y2334.2.2.2.2.2.2.2.2.2.2.length c1037) y2334.2.2.2.2.2.2.2.2.2.2,Blk b2350 [VI y2320.f1.f0,VI y2320.f1.f1,VI y2320.f1.f2,VI y2320.f1.f3] 40,Blk b1 [.slice A2 a0_0.length c3,VP b6 0,.slice A2339 y2334.2.2.2.1.length c2340,VI y2334.2.2.2.2.1,VI y2334.2.2.2.2.2.1,.slice A2343 y2334.2.2.2.2.2.2.1.length c2344,VI a0_6,VI y2334.2.2.2.2.2.2.2.1,VI y2334.2.2.2.2.2.2.2.2.1,VI y2334.2.2.2.2.2.2.2.2.2.1] 58,Blk b6 [.slice A2336 y2334.2.1.length c2337,VI y2334.2.2.1,VI a0_1_2] 89,Row kI 3 (.slice A2336 y2334.2.1.length c2337) y2334.2.1,Row kI 3 (.slice A2343 y2334.2.2.2.2.2.2.1.length c2344) y2334.2.2.2.2.2.2.1,Blk b2333 [.slice A2329 y2320.f0.length c2330,VI y2320.f1.f0,VI y2320.f1.f1,VI y2320.f1.f2,VI y2320.f1.f3] 42,Blk b25 [VP b1 0] 56,Blk b26 [VI a1.f0,.slice A17 a1.f1.length c18] 45,Row kI 3 (.slice A21 n24 c22) a2]) [5,0,1,2,3,4,6,7,8,9] 10 rfl rfl rfl ?_
         refine TK.share (fun G2646 e2647 hs2648 hb2649=>?_)
         have rd2650:Rd G2646 kI A1036 y2334.2.2.2.2.2.2.2.2.2.2:=Rd.row hs2648
         have le2651:y2334.2.2.2.2.2.2.2.2.2.2.length ≤ c1037:=Row.le hs2648
         obtain ⟨y2652,hx2653,h⟩:=bind_no h
         obtain ⟨ad2654,cs2660,hA2655,hi2656,hj2657,hcl2658,hK2659⟩:=Rd.at rd2650 hx2653
         obtain rfl:=RdK.int hK2659
         refine TV (Wt.yes rfl rfl rfl hk2645) rfl rfl (Val.indexAddr Try.underlying23 fsz3 rfl hA2655 rfl hi2656 hj2657) ?_
         refine TV (Wt.yes rfl rfl rfl hk2645) rfl rfl (Val.loadS agg3 rfl (hcl2658 0 _ rfl)) ?_
         refine TV (Wt.yes rfl rfl rfl hk2645) rfl rfl (Val.cmp rfl rfl run_neq) ?_
         refine TV rfl rfl rfl (Val.pickN rfl hk2645 rfl) ?_
         refine TV rfl rfl rfl (Val.assign rfl) ?_
         refine TL.nil ?_
         refine TQ.back hb2649 ?_
         exact fun a W hF hO=>⟨(!decide (y2652=0)),h,hF.sub ⟨rfl,rfl,rfl,rfl,rfl,trivial⟩,hO.selT (Ls:=[Blk b1 [.slice A2 a0_0.length c3,VP b6 0,.slice A2339 y2334.2.2.2.1.length c2340,VI y2334.2.2.2.2.1,VI y2334.2.2.2.2.2.1,.slice A2343 y2334.2.2.2.2.2.2.1.length c2344,VI a0_6,VI y2334.2.2.2.2.2.2.2.1,VI y2334.2.2.2.2.2.2.2.2.1,VI y2334.2.2.2.2.2.2.2.2.2.1] 58,Blk b2350 [VI y2320.f1.f0,VI y2320.f1.f1,VI y2320.f1.f2,VI y2320.f1.f3] 40,Blk b25 [VP b1 0] 56,Blk b26 [VI a1.f0,.slice A17 a1.f1.length c18] 45,Blk b6 [.slice A2336 y2334.2.1.length c2337,VI y2334.2.2.1,VI a0_1_2] 89,Row kI 3 (.slice A1036 y2334.2.2.2.2.2.2.2.2.2.2.length c1037) y2334.2.2.2.2.2.2.2.2.2.2,Row kI 3 (.slice A2343 y2334.2.2.2.2.2.2.1.length c2344) y2334.2.2.2.2.2.2.1,Row kI 3 (.slice A2336 y2334.2.1.length c2337) y2334.2.1,Row kI 3 (.slice A21 n24 c22) a2]) [2,1,7,8,3,0,5,4,9] 10 rfl rfl rfl⟩
def trace_runner_block.l0 (rec82:((List S45) → (List Int) → Int → Int → (List Int) → Int → Int → (List Int) → Int → Int → Int → Int → S37 → (List Int) → Option (Int × Int × (List Int) × Int × (List Int) × Int × Int × (List Int) × Int × Int × Int))) (a0_0:(List S45)) (a0_1_2:Int) (a0_6:Int) (a1:S42):Nat → (List Int) → Int → (List Int) → Int → Int → (List Int) → Int → Int → Int → (List Int) → Int → Option (Sum (Int × (List Int) × Int × (List Int) × Int × Int × (List Int) × Int × Int × Int × (List Int)) ((List Int) × Int × Int × (List Int) × Int × Int × Int × (List Int) × Int × (List Int)))
 | 0,_,_,_,_,_,_,_,_,_,_,_=>none
 | n482 + 1,l342,x343,l344,x349,x350,l351,x355,x356,x357,l358,x362=>(if x343 < (a1.f0.length:Int) then (at? a1.f0 x343).bind fun y633=>(trace_runner_pay.f a0_0 l358 x362 a0_1_2 l344 x349 x350 l351 a0_6 x355 x356 x357).bind fun (y647:(Int × Int))=>(if (!decide (y647.1=0))=true then some (.inl (y647.1,l358,x362,l344,y647.2,x350,l351,x355,x356,x357,l342)) else (rec82 a0_0 l358 x362 a0_1_2 l344 y647.2 x350 l351 a0_6 x355 x356 x357 y633 l342).bind fun (y651:(Int × Int × (List Int) × Int × (List Int) × Int × Int × (List Int) × Int × Int × Int))=>(if (!decide (y651.2.1=0))=true then some (.inl (y651.2.1,y651.2.2.1,y651.2.2.2.1,y651.2.2.2.2.1,y651.2.2.2.2.2.1,y651.2.2.2.2.2.2.1,y651.2.2.2.2.2.2.2.1,y651.2.2.2.2.2.2.2.2.1,y651.2.2.2.2.2.2.2.2.2.1,y651.2.2.2.2.2.2.2.2.2.2,l342)) else jn (γ:=(Sum (Int × (List Int) × Int × (List Int) × Int × Int × (List Int) × Int × Int × Int × (List Int)) ((List Int) × Int × Int × (List Int) × Int × Int × Int × (List Int) × Int × (List Int)))) (fun (l672:(List Int))=>trace_runner_block.l0 rec82 a0_0 a0_1_2 a0_6 a1 n482 l672 (IntKind.i64.wrap (x343 + 1)) y651.2.2.2.2.1 y651.2.2.2.2.2.1 y651.2.2.2.2.2.2.1 y651.2.2.2.2.2.2.2.1 y651.2.2.2.2.2.2.2.2.1 y651.2.2.2.2.2.2.2.2.2.1 y651.2.2.2.2.2.2.2.2.2.2 y651.2.2.1 y651.2.2.2.1) (fun (j673:((List Int) → Option (Sum (Int × (List Int) × Int × (List Int) × Int × Int × (List Int) × Int × Int × Int × (List Int)) ((List Int) × Int × Int × (List Int) × Int × Int × Int × (List Int) × Int × (List Int)))))=>(if (!decide (y633.f1=0))=true then (at? l342 y633.f1).bind fun y675=>j673 (l342.set y633.f1.toNat y651.1) else j673 l342)))) else some (.inr (l344,x349,x350,l351,x355,x356,x357,l358,x362,l342)))
def trace_runner_block.g (rec28:((List S45) → (List Int) → Int → Int → (List Int) → Int → Int → (List Int) → Int → Int → Int → Int → S45 → (List Int) → Option (Int × Int × (List Int) × Int × (List Int) × Int × Int × (List Int) × Int × Int × Int))) (rec58:((List S45) → (List Int) → Int → Int → (List Int) → Int → Int → (List Int) → Int → Int → Int → Int → S42 → (List Int) → Option (Int × (List Int) × Int × (List Int) × Int × Int × (List Int) × Int × Int × Int × (List Int)))) (rec82:((List S45) → (List Int) → Int → Int → (List Int) → Int → Int → (List Int) → Int → Int → Int → Int → S37 → (List Int) → Option (Int × Int × (List Int) × Int × (List Int) × Int × Int × (List Int) × Int × Int × Int))) (a0_0:(List S45)) (a0_1_0:(List Int)) (a0_1_1:Int) (a0_1_2:Int) (a0_2:(List Int)) (a0_3:Int) (a0_4:Int) (a0_5:(List Int)) (a0_6:Int) (a0_7:Int) (a0_8:Int) (a0_9:Int) (a1:S42) (a2:(List Int)):Option (Int × (List Int) × Int × (List Int) × Int × Int × (List Int) × Int × Int × Int × (List Int)):=(trace_runner_block.l0 rec82 a0_0 a0_1_2 a0_6 a1 (a1.f0.length + 1) a2 0 a0_2 a0_3 a0_4 a0_5 a0_7 a0_8 a0_9 a0_1_0 a0_1_1).bind fun | .inl q_=>some q_ | .inr (l461,x466,x467,l468,x472,x473,x474,l475,x479,l480)=>((trace_runner_pay.f a0_0 l475 x479 a0_1_2 l461 x466 x467 l468 a0_6 x472 x473 x474).bind fun (y581:(Int × Int))=>some (y581.1,l475,x479,l461,y581.2,x467,l468,x472,x473,x474,l480))
theorem trace_runner_block.step (rec28:((List S45) → (List Int) → Int → Int → (List Int) → Int → Int → (List Int) → Int → Int → Int → Int → S45 → (List Int) → Option (Int × Int × (List Int) × Int × (List Int) × Int × Int × (List Int) × Int × Int × Int))) (rec58:((List S45) → (List Int) → Int → Int → (List Int) → Int → Int → (List Int) → Int → Int → Int → Int → S42 → (List Int) → Option (Int × (List Int) × Int × (List Int) × Int × Int × (List Int) × Int × Int × Int × (List Int)))) (rec82:((List S45) → (List Int) → Int → Int → (List Int) → Int → Int → (List Int) → Int → Int → Int → Int → S37 → (List Int) → Option (Int × Int × (List Int) × Int × (List Int) × Int × Int × (List Int) × Int × Int × Int))) (ih28:∀ {G:Gd} {r:(Int × Int × (List Int) × Int × (List Int) × Int × Int × (List Int) × Int × Int × Int)} {a0_0:(List S45)} {a0_1_0:(List Int)} {a0_1_1:Int} {a0_1_2:Int} {a0_2:(List Int)} {a0_3:Int} {a0_4:Int} {a0_5:(List Int)} {a0_6:Int} {a0_7:Int} {a0_8:Int} {a0_9:Int} {a1:S45} {a2:(List Int)} {b1:Nat} {A2:Option Addr} {c3:Nat} {b6:Nat} {A7:Option Addr} {c8:Nat} {A10:Option Addr} {c11:Nat} {A14:Option Addr} {c15:Nat} {A17:Option Addr} {c18:Nat} {A21:Option Addr} {c22:Nat} {n24:Nat} (hr4:Rd G k45 A2 a0_0) (hl5:a0_0.length ≤ c3) (hr12:Rd G kI A10 a0_2) (hl13:a0_2.length ≤ c11) (hr19:Rd G k42 A17 a1.f1) (hl20:a1.f1.length ≤ c18),rec28 a0_0 a0_1_0 a0_1_1 a0_1_2 a0_2 a0_3 a0_4 a0_5 a0_6 a0_7 a0_8 a0_9 a1 a2=some r → Fn Try.prog 28 G [Blk b1 [.slice A2 a0_0.length c3,VP b6 0,.slice A10 a0_2.length c11,VI a0_3,VI a0_4,.slice A14 a0_5.length c15,VI a0_6,VI a0_7,VI a0_8,VI a0_9] 58,Blk b6 [.slice A7 a0_1_0.length c8,VI a0_1_1,VI a0_1_2] 89,Row kI 3 (.slice A7 a0_1_0.length c8) a0_1_0,Row kI 3 (.slice A14 a0_5.length c15) a0_5,Row kI 3 (.slice A21 n24 c22) a2] [VP b1 0,.agg #[VI a1.f0,.slice A17 a1.f1.length c18],.slice A21 n24 c22] (trace_runner_call.post G b1 A2 c3 b6 A7 c8 A10 c11 A14 c15 A17 c18 A21 c22 n24 a0_0 a0_1_0 a0_1_1 a0_1_2 a0_2 a0_3 a0_4 a0_5 a0_6 a0_7 a0_8 a0_9 a1 a2 r)) (ih58:∀ {G:Gd} {r:(Int × (List Int) × Int × (List Int) × Int × Int × (List Int) × Int × Int × Int × (List Int))} {a0_0:(List S45)} {a0_1_0:(List Int)} {a0_1_1:Int} {a0_1_2:Int} {a0_2:(List Int)} {a0_3:Int} {a0_4:Int} {a0_5:(List Int)} {a0_6:Int} {a0_7:Int} {a0_8:Int} {a0_9:Int} {a1:S42} {a2:(List Int)} {b1:Nat} {A2:Option Addr} {c3:Nat} {b6:Nat} {A7:Option Addr} {c8:Nat} {A10:Option Addr} {c11:Nat} {A14:Option Addr} {c15:Nat} {A17:Option Addr} {c18:Nat} {A21:Option Addr} {c22:Nat} {n24:Nat} (hr4:Rd G k45 A2 a0_0) (hl5:a0_0.length ≤ c3) (hr12:Rd G kI A10 a0_2) (hl13:a0_2.length ≤ c11) (hr19:Rd G k37 A17 a1.f0) (hl20:a1.f0.length ≤ c18),rec58 a0_0 a0_1_0 a0_1_1 a0_1_2 a0_2 a0_3 a0_4 a0_5 a0_6 a0_7 a0_8 a0_9 a1 a2=some r → Fn Try.prog 58 G [Blk b1 [.slice A2 a0_0.length c3,VP b6 0,.slice A10 a0_2.length c11,VI a0_3,VI a0_4,.slice A14 a0_5.length c15,VI a0_6,VI a0_7,VI a0_8,VI a0_9] 58,Blk b6 [.slice A7 a0_1_0.length c8,VI a0_1_1,VI a0_1_2] 89,Row kI 3 (.slice A7 a0_1_0.length c8) a0_1_0,Row kI 3 (.slice A14 a0_5.length c15) a0_5,Row kI 3 (.slice A21 n24 c22) a2] [VP b1 0,.agg #[.slice A17 a1.f0.length c18,VI a1.f1.f0,VI a1.f1.f1,VI a1.f1.f2,VI a1.f1.f3],.slice A21 n24 c22] (trace_runner_block.post G b1 A2 c3 b6 A7 c8 A10 c11 A14 c15 A17 c18 A21 c22 n24 a0_0 a0_1_0 a0_1_1 a0_1_2 a0_2 a0_3 a0_4 a0_5 a0_6 a0_7 a0_8 a0_9 a1 a2 r)) (ih82:∀ {G:Gd} {r:(Int × Int × (List Int) × Int × (List Int) × Int × Int × (List Int) × Int × Int × Int)} {a0_0:(List S45)} {a0_1_0:(List Int)} {a0_1_1:Int} {a0_1_2:Int} {a0_2:(List Int)} {a0_3:Int} {a0_4:Int} {a0_5:(List Int)} {a0_6:Int} {a0_7:Int} {a0_8:Int} {a0_9:Int} {a1:S37} {a2:(List Int)} {b1:Nat} {A2:Option Addr} {c3:Nat} {b6:Nat} {A7:Option Addr} {c8:Nat} {A10:Option Addr} {c11:Nat} {A14:Option Addr} {c15:Nat} {A17:Option Addr} {c18:Nat} {A21:Option Addr} {c22:Nat} {n24:Nat} (hr4:Rd G k45 A2 a0_0) (hl5:a0_0.length ≤ c3) (hr12:Rd G kI A10 a0_2) (hl13:a0_2.length ≤ c11) (hr19:Rd G kI A17 a1.f5) (hl20:a1.f5.length ≤ c18),rec82 a0_0 a0_1_0 a0_1_1 a0_1_2 a0_2 a0_3 a0_4 a0_5 a0_6 a0_7 a0_8 a0_9 a1 a2=some r → Fn Try.prog 82 G [Blk b1 [.slice A2 a0_0.length c3,VP b6 0,.slice A10 a0_2.length c11,VI a0_3,VI a0_4,.slice A14 a0_5.length c15,VI a0_6,VI a0_7,VI a0_8,VI a0_9] 58,Blk b6 [.slice A7 a0_1_0.length c8,VI a0_1_1,VI a0_1_2] 89,Row kI 3 (.slice A7 a0_1_0.length c8) a0_1_0,Row kI 3 (.slice A14 a0_5.length c15) a0_5,Row kI 3 (.slice A21 n24 c22) a2] [VP b1 0,.agg #[VI a1.f0,VI a1.f1,VI a1.f2,VI a1.f3,VI a1.f4,.slice A17 a1.f5.length c18],.slice A21 n24 c22] (trace_runner_value.post G b1 A2 c3 b6 A7 c8 A10 c11 A14 c15 A17 c18 A21 c22 n24 a0_0 a0_1_0 a0_1_1 a0_1_2 a0_2 a0_3 a0_4 a0_5 a0_6 a0_7 a0_8 a0_9 a1 a2 r)) {G:Gd} {r:(Int × (List Int) × Int × (List Int) × Int × Int × (List Int) × Int × Int × Int × (List Int))} {a0_0:(List S45)} {a0_1_0:(List Int)} {a0_1_1:Int} {a0_1_2:Int} {a0_2:(List Int)} {a0_3:Int} {a0_4:Int} {a0_5:(List Int)} {a0_6:Int} {a0_7:Int} {a0_8:Int} {a0_9:Int} {a1:S42} {a2:(List Int)} {b1:Nat} {A2:Option Addr} {c3:Nat} {b6:Nat} {A7:Option Addr} {c8:Nat} {A10:Option Addr} {c11:Nat} {A14:Option Addr} {c15:Nat} {A17:Option Addr} {c18:Nat} {A21:Option Addr} {c22:Nat} {n24:Nat} (hr4:Rd G k45 A2 a0_0) (hl5:a0_0.length ≤ c3) (hr12:Rd G kI A10 a0_2) (hl13:a0_2.length ≤ c11) (hr19:Rd G k37 A17 a1.f0) (hl20:a1.f0.length ≤ c18) (h:trace_runner_block.g rec28 rec58 rec82 a0_0 a0_1_0 a0_1_1 a0_1_2 a0_2 a0_3 a0_4 a0_5 a0_6 a0_7 a0_8 a0_9 a1 a2=some r):Fn Try.prog 58 G [Blk b1 [.slice A2 a0_0.length c3,VP b6 0,.slice A10 a0_2.length c11,VI a0_3,VI a0_4,.slice A14 a0_5.length c15,VI a0_6,VI a0_7,VI a0_8,VI a0_9] 58,Blk b6 [.slice A7 a0_1_0.length c8,VI a0_1_1,VI a0_1_2] 89,Row kI 3 (.slice A7 a0_1_0.length c8) a0_1_0,Row kI 3 (.slice A14 a0_5.length c15) a0_5,Row kI 3 (.slice A21 n24 c22) a2] [VP b1 0,.agg #[.slice A17 a1.f0.length c18,VI a1.f1.f0,VI a1.f1.f1,VI a1.f1.f2,VI a1.f1.f3],.slice A21 n24 c22] (trace_runner_block.post G b1 A2 c3 b6 A7 c8 A10 c11 A14 c15 A17 c18 A21 c22 n24 a0_0 a0_1_0 a0_1_1 a0_1_2 a0_2 a0_3 a0_4 a0_5 a0_6 a0_7 a0_8 a0_9 a1 a2 r):=by
 refine Fn.intro (e:=[(0,VP b1 0),(1,.agg #[.slice A17 a1.f0.length c18,VI a1.f1.f0,VI a1.f1.f1,VI a1.f1.f2,VI a1.f1.f3]),(2,.slice A21 n24 c22)]) 45 Try.func58 rfl Try.ntmps58 rfl rfl (Nat.le_of_ble_eq_true rfl) (fun L=>?_)
 unfold trace_runner_block.g at h
 refine TC.seq ?_
 refine TC.region ?_
 refine TL.cons (TL.box (cs:=[.slice A17 a1.f0.length c18,VI a1.f1.f0,VI a1.f1.f1,VI a1.f1.f2,VI a1.f1.f3]) rfl rfl rfl rfl (fun b25=>?_))
 refine TV rfl rfl rfl (Val.assign rfl) ?_
 refine TL.nil ?_
 refine TQ.then_ ?_
 refine TC.seq ?_
 refine TC.seq ?_
 refine TC.region ?_
 refine TV rfl rfl rfl (Val.fieldAddrB Try.underlying42 rfl fsz38 rfl rfl rfl) ?_
 refine TV rfl rfl rfl (Val.loadB 0 agg38 rfl rfl rfl) ?_
 refine TV rfl rfl rfl (Val.len Try.underlying38 rfl) ?_
 refine TV rfl rfl rfl (Val.move rfl) ?_
 refine TL.nil ?_
 refine TQ.then_ ?_
 obtain ⟨o481,ho481,ko481⟩:=bind_no h
 clear h
 refine TC.tail (fun a W=>∃ (l461:(List Int)) (x466:Int) (x467:Int) (l468:(List Int)) (x472:Int) (x473:Int) (x474:Int) (l475:(List Int)) (x479:Int) (l480:(List Int)) (A462:Option Addr) (c463:Nat) (A469:Option Addr) (c470:Nat) (A476:Option Addr) (c477:Nat),(.inr (l461,x466,x467,l468,x472,x473,x474,l475,x479,l480))=o481∧Rd G kI A462 l461∧l461.length ≤ c463∧Fr 45 a [(0,VP b1 0)]∧Own G (Blk b1 [.slice A2 a0_0.length c3,VP b6 0,.slice A462 l461.length c463,VI x466,VI x467,.slice A469 l468.length c470,VI a0_6,VI x472,VI x473,VI x474] 58::Blk b6 [.slice A476 l475.length c477,VI x479,VI a0_1_2] 89::Row kI 3 (.slice A469 l468.length c470) l468::Row kI 3 (.slice A476 l475.length c477) l475::Row kI 3 (.slice A21 n24 c22) l480::L) W) ?_ ?_
 ·
  rintro a W ⟨l461,x466,x467,l468,x472,x473,x474,l475,x479,l480,A462,c463,A469,c470,A476,c477,rfl,hr464,hl465,hF,hO⟩
  have h:=ko481
  clear ko481 ho481
  refine TQ.use ?_ hF hO
  clear hF hO
  refine TQ.then_ ?_
  refine TC.seq ?_
  refine TC.region ?_
  refine TV rfl rfl rfl (Val.move rfl) ?_
  refine TK.sel (Ls:=[Blk b1 [.slice A2 a0_0.length c3,VP b6 0,.slice A462 l461.length c463,VI x466,VI x467,.slice A469 l468.length c470,VI a0_6,VI x472,VI x473,VI x474] 58,Blk b6 [.slice A476 l475.length c477,VI x479,VI a0_1_2] 89,Row kI 3 (.slice A476 l475.length c477) l475,Row kI 3 (.slice A469 l468.length c470) l468,Row kI 3 (.slice A21 n24 c22) l480]) [0,1,3,2,4] 5 rfl rfl rfl ?_
  obtain ⟨y581,hy582,h⟩:=bind_no h
  refine TL.cons (TL.callV (Lin:=[Blk b1 [.slice A2 a0_0.length c3,VP b6 0,.slice A462 l461.length c463,VI x466,VI x467,.slice A469 l468.length c470,VI a0_6,VI x472,VI x473,VI x474] 58,Blk b6 [.slice A476 l475.length c477,VI x479,VI a0_1_2] 89,Row kI 3 (.slice A476 l475.length c477) l475,Row kI 3 (.slice A469 l468.length c470) l468]) (args:=[VP b1 0]) rfl rfl rfl hbd81 rfl rfl (trace_runner_pay.calls (a0_0:=a0_0) (a0_1_0:=l475) (a0_1_1:=x479) (a0_1_2:=a0_1_2) (a0_2:=l461) (a0_3:=x466) (a0_4:=x467) (a0_5:=l468) (a0_6:=a0_6) (a0_7:=x472) (a0_8:=x473) (a0_9:=x474) hr4 hl5 hr464 hl465 hy582) rfl ?_)
  rintro _ _ _ _ ⟨rfl,rfl,rfl⟩
  refine TV rfl rfl rfl (Val.assign rfl) ?_
  refine TL.nil ?_
  refine TQ.then_ ?_
  refine TC.ret ?_
  obtain rfl:=Option.some.inj h
  exact TQ.fin (.inl rfl) rfl Try.results58 (.tmp rfl .nil) rfl (FRel.mk (Ls:=[Blk b1 [.slice A2 a0_0.length c3,VP b6 0,.slice A462 l461.length c463,VI y581.2,VI x467,.slice A469 l468.length c470,VI a0_6,VI x472,VI x473,VI x474] 58,Blk b6 [.slice A476 l475.length c477,VI x479,VI a0_1_2] 89,Row kI 3 (.slice A476 l475.length c477) l475,Row kI 3 (.slice A469 l468.length c470) l468,Row kI 3 (.slice A21 n24 c22) l480]) [0,1,2,3,4] 5 (Gd.le.refl _) rfl rfl rfl ⟨rfl,A476,c477,A462,c463,A469,c470,rfl,rfl,hr464,hl465⟩)
 ·
  refine TC.block ?_
  intro a W hF hO
  have hS:∃ (l342:(List Int)) (x343:Int) (l344:(List Int)) (x349:Int) (x350:Int) (l351:(List Int)) (x355:Int) (x356:Int) (x357:Int) (l358:(List Int)) (x362:Int) (A345:Option Addr) (c346:Nat) (A352:Option Addr) (c353:Nat) (A359:Option Addr) (c360:Nat),trace_runner_block.l0 rec82 a0_0 a0_1_2 a0_6 a1 (a1.f0.length + 1) l342 x343 l344 x349 x350 l351 x355 x356 x357 l358 x362=some o481∧Rd G kI A345 l344∧l344.length ≤ c346∧Fr 45 a [(0,VP b1 0),(2,.slice A21 n24 c22),(13,.slice A17 a1.f0.length c18),(14,VI (a1.f0.length:Int)),(15,VI x343)]∧Own G (Blk b1 [.slice A2 a0_0.length c3,VP b6 0,.slice A345 l344.length c346,VI x349,VI x350,.slice A352 l351.length c353,VI a0_6,VI x355,VI x356,VI x357] 58::Blk b6 [.slice A359 l358.length c360,VI x362,VI a0_1_2] 89::Row kI 3 (.slice A21 n24 c22) l342::Row kI 3 (.slice A352 l351.length c353) l351::Row kI 3 (.slice A359 l358.length c360) l358::L) W:=by
   exact ⟨a2,0,a0_2,a0_3,a0_4,a0_5,a0_7,a0_8,a0_9,a0_1_0,a0_1_1,A10,c11,A14,c15,A7,c8,ho481,hr12,hl13,hF.sub ⟨rfl,rfl,rfl,rfl,rfl,trivial⟩,hO.selT (Ls:=[Blk b1 [.slice A2 a0_0.length c3,VP b6 0,.slice A10 a0_2.length c11,VI a0_3,VI a0_4,.slice A14 a0_5.length c15,VI a0_6,VI a0_7,VI a0_8,VI a0_9] 58,Blk b6 [.slice A7 a0_1_0.length c8,VI a0_1_1,VI a0_1_2] 89,Row kI 3 (.slice A21 n24 c22) a2,Row kI 3 (.slice A14 a0_5.length c15) a0_5,Row kI 3 (.slice A7 a0_1_0.length c8) a0_1_0]) [1,2,5,4,3] 6 rfl rfl rfl⟩
  clear hF hO ho481
  refine TC.loop (fun n482 a W=>∃ (l342:(List Int)) (x343:Int) (l344:(List Int)) (x349:Int) (x350:Int) (l351:(List Int)) (x355:Int) (x356:Int) (x357:Int) (l358:(List Int)) (x362:Int) (A345:Option Addr) (c346:Nat) (A352:Option Addr) (c353:Nat) (A359:Option Addr) (c360:Nat),trace_runner_block.l0 rec82 a0_0 a0_1_2 a0_6 a1 n482 l342 x343 l344 x349 x350 l351 x355 x356 x357 l358 x362=some o481∧Rd G kI A345 l344∧l344.length ≤ c346∧Fr 45 a [(0,VP b1 0),(2,.slice A21 n24 c22),(13,.slice A17 a1.f0.length c18),(14,VI (a1.f0.length:Int)),(15,VI x343)]∧Own G (Blk b1 [.slice A2 a0_0.length c3,VP b6 0,.slice A345 l344.length c346,VI x349,VI x350,.slice A352 l351.length c353,VI a0_6,VI x355,VI x356,VI x357] 58::Blk b6 [.slice A359 l358.length c360,VI x362,VI a0_1_2] 89::Row kI 3 (.slice A21 n24 c22) l342::Row kI 3 (.slice A352 l351.length c353) l351::Row kI 3 (.slice A359 l358.length c360) l358::L) W) ?_ ?_ hS
  ·
   rintro a W ⟨l342,x343,l344,x349,x350,l351,x355,x356,x357,l358,x362,A345,c346,A352,c353,A359,c360,h,hr347,hl348,hF,hO⟩
   exact none_no h
  ·
   clear hS
   rintro n482 a W ⟨l342,x343,l344,x349,x350,l351,x355,x356,x357,l358,x362,A345,c346,A352,c353,A359,c360,h,hr347,hl348,hF,hO⟩
   rw [trace_runner_block.l0] at h
   refine TC.use ?_ hF hO
   clear hF hO
   refine TC.seq ?_
   refine TC.region ?_
   refine TV rfl rfl rfl (Val.cmp rfl rfl run_lss) ?_
   refine TL.nil ?_
   refine TQ.then_ ?_
   refine TC.seq ?_
   refine TC.cond_p rfl h (fun hc584 h=>?_) (fun hc584 h=>?_)
   ·
    refine TC.skip ?_
    refine TQ.then_ ?_
    refine TC.seq ?_
    refine TC.block ?_
    refine TC.seq ?_
    refine TC.region ?_
    obtain ⟨y633,hx634,h⟩:=bind_no h
    obtain ⟨ad635,cs641,hA636,hi637,hj638,hcl639,hK640⟩:=Rd.at hr19 hx634
    obtain ⟨A642,c643,rfl,hr644,hl645⟩:=k37_openR hK640
    refine TV rfl rfl rfl (Val.indexAddr Try.underlying38 fsz37 rfl hA636 rfl hi637 hj638) ?_
    refine TV rfl rfl rfl (Val.loadsS (cs:=[VI y633.f0,VI y633.f1,VI y633.f2,VI y633.f3,VI y633.f4,.slice A642 y633.f5.length c643]) agg37 fsz37 rfl rfl (Cl.sub (off:=0) (n:=6) hcl639 rfl)) ?_
    refine TL.cons (TL.alloc (cs:=[VI 0,VI 0,VI 0,VI 0,VI 0,.slice none 0 0]) rfl rfl zr37 rfl (fun b646=>?_))
    refine TL.cons (TL.store 0 (ds:=[VI y633.f0,VI y633.f1,VI y633.f2,VI y633.f3,VI y633.f4,.slice A642 y633.f5.length c643]) (cs':=[VI y633.f0,VI y633.f1,VI y633.f2,VI y633.f3,VI y633.f4,.slice A642 y633.f5.length c643]) (L':=(Blk b646 [VI y633.f0,VI y633.f1,VI y633.f2,VI y633.f3,VI y633.f4,.slice A642 y633.f5.length c643] 37::Blk b1 [.slice A2 a0_0.length c3,VP b6 0,.slice A345 l344.length c346,VI x349,VI x350,.slice A352 l351.length c353,VI a0_6,VI x355,VI x356,VI x357] 58::Blk b6 [.slice A359 l358.length c360,VI x362,VI a0_1_2] 89::Row kI 3 (.slice A21 n24 c22) l342::Row kI 3 (.slice A352 l351.length c353) l351::Row kI 3 (.slice A359 l358.length c360) l358::L)) rfl fsz37 rfl rfl rfl rfl rfl (Nat.le_of_ble_eq_true rfl) rfl rfl ?_)
    refine TL.nil ?_
    refine TQ.then_ ?_
    refine TC.seq ?_
    refine TC.seq ?_
    refine TC.region ?_
    refine TV rfl rfl rfl (Val.move rfl) ?_
    refine TK.sel (Ls:=[Blk b1 [.slice A2 a0_0.length c3,VP b6 0,.slice A345 l344.length c346,VI x349,VI x350,.slice A352 l351.length c353,VI a0_6,VI x355,VI x356,VI x357] 58,Blk b6 [.slice A359 l358.length c360,VI x362,VI a0_1_2] 89,Row kI 3 (.slice A359 l358.length c360) l358,Row kI 3 (.slice A352 l351.length c353) l351,Blk b646 [VI y633.f0,VI y633.f1,VI y633.f2,VI y633.f3,VI y633.f4,.slice A642 y633.f5.length c643] 37,Row kI 3 (.slice A21 n24 c22) l342]) [1,2,5,4,0,3] 6 rfl rfl rfl ?_
    obtain ⟨y647,hy648,h⟩:=bind_no h
    refine TL.cons (TL.callV (Lin:=[Blk b1 [.slice A2 a0_0.length c3,VP b6 0,.slice A345 l344.length c346,VI x349,VI x350,.slice A352 l351.length c353,VI a0_6,VI x355,VI x356,VI x357] 58,Blk b6 [.slice A359 l358.length c360,VI x362,VI a0_1_2] 89,Row kI 3 (.slice A359 l358.length c360) l358,Row kI 3 (.slice A352 l351.length c353) l351]) (args:=[VP b1 0]) rfl rfl rfl hbd81 rfl rfl (trace_runner_pay.calls (a0_0:=a0_0) (a0_1_0:=l358) (a0_1_1:=x362) (a0_1_2:=a0_1_2) (a0_2:=l344) (a0_3:=x349) (a0_4:=x350) (a0_5:=l351) (a0_6:=a0_6) (a0_7:=x355) (a0_8:=x356) (a0_9:=x357) hr4 hl5 hr347 hl348 hy648) rfl ?_)
    rintro _ _ _ _ ⟨rfl,rfl,rfl⟩
    refine TV rfl rfl rfl (Val.assign rfl) ?_
    refine TL.nil ?_
    refine TQ.then_ ?_
    refine TC.seq ?_
    refine TC.region ?_
    refine TV rfl rfl rfl (Val.move rfl) ?_
    refine TV rfl rfl rfl (Val.cmp rfl rfl run_neq) ?_
    refine TL.nil ?_
    refine TQ.then_ ?_
    refine TC.cond_b rfl h (fun hc650 h=>?_) (fun hc650 h=>?_)
    ·
     refine TC.seq ?_
     refine TC.region ?_
     refine TV rfl rfl rfl (Val.move rfl) ?_
     refine TV rfl rfl rfl (Val.assign rfl) ?_
     refine TL.nil ?_
     refine TQ.then_ ?_
     refine TC.ret ?_
     refine TQ.thenR ?_
     refine TQ.inBR ?_
     refine TQ.thenR ?_
     refine TQ.thenR ?_
     refine TQ.inBR ?_
     refine TQ.thenR ?_
     refine TQ.thenR ?_
     obtain rfl:=Option.some.inj h
     have h:=ko481
     obtain rfl:=Option.some.inj h
     exact TQ.fin (.inl rfl) rfl Try.results58 (.tmp rfl .nil) rfl (FRel.mk (Ls:=[Blk b1 [.slice A2 a0_0.length c3,VP b6 0,.slice A345 l344.length c346,VI y647.2,VI x350,.slice A352 l351.length c353,VI a0_6,VI x355,VI x356,VI x357] 58,Blk b6 [.slice A359 l358.length c360,VI x362,VI a0_1_2] 89,Row kI 3 (.slice A359 l358.length c360) l358,Row kI 3 (.slice A352 l351.length c353) l351,Row kI 3 (.slice A21 n24 c22) l342]) [0,1,2,3,5] 6 (Gd.le.refl _) rfl rfl rfl ⟨rfl,A359,c360,A345,c346,A352,c353,rfl,rfl,hr347,hl348⟩)
    ·
     refine TC.skip ?_
     refine TQ.then_ ?_
     refine TC.seq ?_
     refine TC.region ?_
     refine TV rfl rfl rfl (Val.move rfl) ?_
     refine TV rfl rfl rfl (Val.loadsB 4 (cs:=[VI y633.f0,VI y633.f1,VI y633.f2,VI y633.f3,VI y633.f4,.slice A642 y633.f5.length c643]) agg37 fsz37 rfl rfl rfl rfl) ?_
     refine TV rfl rfl rfl (Val.move rfl) ?_
     refine TK.sel (Ls:=[Blk b1 [.slice A2 a0_0.length c3,VP b6 0,.slice A345 l344.length c346,VI y647.2,VI x350,.slice A352 l351.length c353,VI a0_6,VI x355,VI x356,VI x357] 58,Blk b6 [.slice A359 l358.length c360,VI x362,VI a0_1_2] 89,Row kI 3 (.slice A359 l358.length c360) l358,Row kI 3 (.slice A352 l351.length c353) l351,Row kI 3 (.slice A21 n24 c22) l342,Blk b646 [VI y633.f0,VI y633.f1,VI y633.f2,VI y633.f3,VI y633.f4,.slice A642 y633.f5.length c643] 37]) [0,1,2,3,5,4] 6 rfl rfl rfl ?_
     obtain ⟨y651,hy652,h⟩:=bind_no h
     refine TL.cons (TL.callV (Lin:=[Blk b1 [.slice A2 a0_0.length c3,VP b6 0,.slice A345 l344.length c346,VI y647.2,VI x350,.slice A352 l351.length c353,VI a0_6,VI x355,VI x356,VI x357] 58,Blk b6 [.slice A359 l358.length c360,VI x362,VI a0_1_2] 89,Row kI 3 (.slice A359 l358.length c360) l358,Row kI 3 (.slice A352 l351.length c353) l351,Row kI 3 (.slice A21 n24 c22) l342]) (args:=[VP b1 0,.agg #[VI y633.f0,VI y633.f1,VI y633.f2,VI y633.f3,VI y633.f4,.slice A642 y633.f5.length c643],.slice A21 n24 c22]) rfl rfl rfl hbd82 rfl rfl (ih82 (a0_0:=a0_0) (a0_1_0:=l358) (a0_1_1:=x362) (a0_1_2:=a0_1_2) (a0_2:=l344) (a0_3:=y647.2) (a0_4:=x350) (a0_5:=l351) (a0_6:=a0_6) (a0_7:=x355) (a0_8:=x356) (a0_9:=x357) (a1:=y633) (a2:=l342) hr4 hl5 hr347 hl348 hr644 hl645 hy652) rfl ?_)
     rintro _ _ _ _ ⟨rfl,A653,c654,A656,c657,A660,c661,rfl,rfl,hr658,hl659⟩
     refine TV rfl rfl rfl (Val.move rfl) ?_
     refine TV rfl rfl rfl (Val.extract rfl rfl) ?_
     refine TV rfl rfl rfl (Val.extract rfl rfl) ?_
     refine TV rfl rfl rfl (Val.assign rfl) ?_
     refine TV rfl rfl rfl (Val.assign rfl) ?_
     refine TL.nil ?_
     refine TQ.then_ ?_
     refine TC.seq ?_
     refine TC.seq ?_
     refine TC.region ?_
     refine TV rfl rfl rfl (Val.move rfl) ?_
     refine TV rfl rfl rfl (Val.cmp rfl rfl run_neq) ?_
     refine TL.nil ?_
     refine TQ.then_ ?_
     refine TC.cond_b rfl h (fun hc664 h=>?_) (fun hc664 h=>?_)
     ·
      refine TC.seq ?_
      refine TC.region ?_
      refine TV rfl rfl rfl (Val.move rfl) ?_
      refine TV rfl rfl rfl (Val.assign rfl) ?_
      refine TL.nil ?_
      refine TQ.then_ ?_
      refine TC.ret ?_
      refine TQ.thenR ?_
      refine TQ.inBR ?_
      refine TQ.thenR ?_
      refine TQ.thenR ?_
      refine TQ.inBR ?_
      refine TQ.thenR ?_
      refine TQ.thenR ?_
      obtain rfl:=Option.some.inj h
      have h:=ko481
      obtain rfl:=Option.some.inj h
      exact TQ.fin (.inl rfl) rfl Try.results58 (.tmp rfl .nil) rfl (FRel.mk (Ls:=[Blk b1 [.slice A2 a0_0.length c3,VP b6 0,.slice A656 y651.2.2.2.2.1.length c657,VI y651.2.2.2.2.2.1,VI y651.2.2.2.2.2.2.1,.slice A660 y651.2.2.2.2.2.2.2.1.length c661,VI a0_6,VI y651.2.2.2.2.2.2.2.2.1,VI y651.2.2.2.2.2.2.2.2.2.1,VI y651.2.2.2.2.2.2.2.2.2.2] 58,Blk b6 [.slice A653 y651.2.2.1.length c654,VI y651.2.2.2.1,VI a0_1_2] 89,Row kI 3 (.slice A653 y651.2.2.1.length c654) y651.2.2.1,Row kI 3 (.slice A660 y651.2.2.2.2.2.2.2.1.length c661) y651.2.2.2.2.2.2.2.1,Row kI 3 (.slice A21 n24 c22) l342]) [0,1,2,3,4] 6 (Gd.le.refl _) rfl rfl rfl ⟨rfl,A653,c654,A656,c657,A660,c661,rfl,rfl,hr658,hl659⟩)
     ·
      refine TC.skip ?_
      refine TQ.then_ ?_
      refine TC.seq ?_
      refine TC.region ?_
      refine TV rfl rfl rfl (Val.fieldAddrB Try.underlying37 rfl fsz3 rfl rfl rfl) ?_
      refine TV rfl rfl rfl (Val.loadB 5 agg3 rfl rfl rfl) ?_
      refine TV rfl rfl rfl (Val.cmp rfl rfl run_neq) ?_
      refine TL.nil ?_
      refine TQ.then_ ?_
      obtain ⟨j673,hj673,h⟩:=jn_no h
      refine TC.tail (fun a W=>∃ (l672:(List Int)),j673 l672=some o481∧Fr 45 a [(0,VP b1 0),(2,.slice A21 n24 c22),(13,.slice A17 a1.f0.length c18),(14,VI (a1.f0.length:Int)),(15,VI x343)]∧Own G (Blk b1 [.slice A2 a0_0.length c3,VP b6 0,.slice A656 y651.2.2.2.2.1.length c657,VI y651.2.2.2.2.2.1,VI y651.2.2.2.2.2.2.1,.slice A660 y651.2.2.2.2.2.2.2.1.length c661,VI a0_6,VI y651.2.2.2.2.2.2.2.2.1,VI y651.2.2.2.2.2.2.2.2.2.1,VI y651.2.2.2.2.2.2.2.2.2.2] 58::Blk b6 [.slice A653 y651.2.2.1.length c654,VI y651.2.2.2.1,VI a0_1_2] 89::Row kI 3 (.slice A21 n24 c22) l672::Row kI 3 (.slice A660 y651.2.2.2.2.2.2.2.1.length c661) y651.2.2.2.2.2.2.2.1::Row kI 3 (.slice A653 y651.2.2.1.length c654) y651.2.2.1::L) W) ?_ ?_
      ·
       rintro a W ⟨l672,h,hF,hO⟩
       rw [hj673] at h
       refine TQ.use ?_ hF hO
       clear hF hO
       refine TQ.inB ?_
       refine TQ.then_ ?_
       refine TC.region ?_
       refine TV rfl rfl rfl (Val.cmp rfl rfl run_add) ?_
       refine TV rfl rfl rfl (Val.move rfl) ?_
       refine TL.nil ?_
       exact fun a W hF hO=>⟨l672,IntKind.i64.wrap (x343 + 1),y651.2.2.2.2.1,y651.2.2.2.2.2.1,y651.2.2.2.2.2.2.1,y651.2.2.2.2.2.2.2.1,y651.2.2.2.2.2.2.2.2.1,y651.2.2.2.2.2.2.2.2.2.1,y651.2.2.2.2.2.2.2.2.2.2,y651.2.2.1,y651.2.2.2.1,A656,c657,A660,c661,A653,c654,h,hr658,hl659,hF.sub ⟨rfl,rfl,rfl,rfl,rfl,trivial⟩,hO.selT (Ls:=[Blk b1 [.slice A2 a0_0.length c3,VP b6 0,.slice A656 y651.2.2.2.2.1.length c657,VI y651.2.2.2.2.2.1,VI y651.2.2.2.2.2.2.1,.slice A660 y651.2.2.2.2.2.2.2.1.length c661,VI a0_6,VI y651.2.2.2.2.2.2.2.2.1,VI y651.2.2.2.2.2.2.2.2.2.1,VI y651.2.2.2.2.2.2.2.2.2.2] 58,Blk b6 [.slice A653 y651.2.2.1.length c654,VI y651.2.2.2.1,VI a0_1_2] 89,Row kI 3 (.slice A21 n24 c22) l672,Row kI 3 (.slice A660 y651.2.2.2.2.2.2.2.1.length c661) y651.2.2.2.2.2.2.2.1,Row kI 3 (.slice A653 y651.2.2.1.length c654) y651.2.2.1]) [0,1,2,3,4] 5 rfl rfl rfl⟩
      ·
       refine TC.cond_b rfl h (fun hc674 h=>?_) (fun hc674 h=>?_)
       ·
        refine TC.region ?_
        refine TV rfl rfl rfl (Val.move rfl) ?_
        refine TV rfl rfl rfl (Val.fieldAddrB Try.underlying37 rfl fsz3 rfl rfl rfl) ?_
        refine TV rfl rfl rfl (Val.loadB 5 agg3 rfl rfl rfl) ?_
        refine TV rfl rfl rfl (Val.move rfl) ?_
        obtain ⟨y675,hy676,h⟩:=bind_no h
        refine TK.opened 4 rfl hy676 (fun b677 hA678 hi679 hj680=>?_)
        refine TV rfl rfl rfl (Val.indexAddrW Try.underlying23 fsz3 rfl hA678 rfl hi679 hj680) ?_
        refine TK.new (El.of (k:=kI) (xv:=y651.1) (cs:=[VI y651.1]) (fun W B=>rfl)) ?_
        refine TK.sel (Ls:=[Row kI 3 (.slice A21 n24 c22) l342,El kI y651.1 [VI y651.1],Blk b1 [.slice A2 a0_0.length c3,VP b6 0,.slice A656 y651.2.2.2.2.1.length c657,VI y651.2.2.2.2.2.1,VI y651.2.2.2.2.2.2.1,.slice A660 y651.2.2.2.2.2.2.2.1.length c661,VI a0_6,VI y651.2.2.2.2.2.2.2.2.1,VI y651.2.2.2.2.2.2.2.2.2.1,VI y651.2.2.2.2.2.2.2.2.2.2] 58,Blk b6 [.slice A653 y651.2.2.1.length c654,VI y651.2.2.2.1,VI a0_1_2] 89,Row kI 3 (.slice A653 y651.2.2.1.length c654) y651.2.2.1,Row kI 3 (.slice A660 y651.2.2.2.2.2.2.2.1.length c661) y651.2.2.2.2.2.2.2.1,Blk b646 [VI y633.f0,VI y633.f1,VI y633.f2,VI y633.f3,VI y633.f4,.slice A642 y633.f5.length c643] 37]) [5,0,1,2,3,4,6] 7 rfl rfl rfl ?_
        refine TL.cons (TL.storeE kI (xs:=l342) (xv:=y651.1) (ds:=[VI y651.1]) rfl fsz3 hA678 hy676 rfl rfl rfl rfl (Nat.le_of_ble_eq_true rfl) (wholeM rfl) ?_)
        refine TL.nil ?_
        exact fun a W hF hO=>⟨(l342.set y633.f1.toNat y651.1),h,hF.sub ⟨rfl,rfl,rfl,rfl,rfl,trivial⟩,hO.selT (Ls:=[Blk b1 [.slice A2 a0_0.length c3,VP b6 0,.slice A656 y651.2.2.2.2.1.length c657,VI y651.2.2.2.2.2.1,VI y651.2.2.2.2.2.2.1,.slice A660 y651.2.2.2.2.2.2.2.1.length c661,VI a0_6,VI y651.2.2.2.2.2.2.2.2.1,VI y651.2.2.2.2.2.2.2.2.2.1,VI y651.2.2.2.2.2.2.2.2.2.2] 58,Blk b6 [.slice A653 y651.2.2.1.length c654,VI y651.2.2.2.1,VI a0_1_2] 89,Row kI 3 (.slice A21 n24 c22) (l342.set y633.f1.toNat y651.1),Row kI 3 (.slice A660 y651.2.2.2.2.2.2.2.1.length c661) y651.2.2.2.2.2.2.2.1,Row kI 3 (.slice A653 y651.2.2.1.length c654) y651.2.2.1]) [1,2,0,4,3] 6 rfl rfl rfl⟩
       ·
        refine TC.skip ?_
        exact fun a W hF hO=>⟨l342,h,hF.sub ⟨rfl,rfl,rfl,rfl,rfl,trivial⟩,hO.selT (Ls:=[Blk b1 [.slice A2 a0_0.length c3,VP b6 0,.slice A656 y651.2.2.2.2.1.length c657,VI y651.2.2.2.2.2.1,VI y651.2.2.2.2.2.2.1,.slice A660 y651.2.2.2.2.2.2.2.1.length c661,VI a0_6,VI y651.2.2.2.2.2.2.2.2.1,VI y651.2.2.2.2.2.2.2.2.2.1,VI y651.2.2.2.2.2.2.2.2.2.2] 58,Blk b6 [.slice A653 y651.2.2.1.length c654,VI y651.2.2.2.1,VI a0_1_2] 89,Row kI 3 (.slice A21 n24 c22) l342,Row kI 3 (.slice A660 y651.2.2.2.2.2.2.2.1.length c661) y651.2.2.2.2.2.2.2.1,Row kI 3 (.slice A653 y651.2.2.1.length c654) y651.2.2.1]) [0,1,4,3,2] 6 rfl rfl rfl⟩
   ·
    refine TC.exit ?_
    refine TQ.thenX ?_
    refine TQ.thenX ?_
    refine TQ.inBX ?_
    exact fun a W hF hO=>⟨l344,x349,x350,l351,x355,x356,x357,l358,x362,l342,A345,c346,A352,c353,A359,c360,Option.some.inj h,hr347,hl348,hF.sub ⟨rfl,trivial⟩,hO.selT (Ls:=[Blk b1 [.slice A2 a0_0.length c3,VP b6 0,.slice A345 l344.length c346,VI x349,VI x350,.slice A352 l351.length c353,VI a0_6,VI x355,VI x356,VI x357] 58,Blk b6 [.slice A359 l358.length c360,VI x362,VI a0_1_2] 89,Row kI 3 (.slice A352 l351.length c353) l351,Row kI 3 (.slice A359 l358.length c360) l358,Row kI 3 (.slice A21 n24 c22) l342]) [0,1,3,4,2] 5 rfl rfl rfl⟩
def trace_runner_value.l0 (a1:S37) (a2:(List Int)):Nat → (List Int) → Int → Option ((List Int))
 | 0,_,_=>none
 | n4951 + 1,l4876,x4881=>(if x4881 < (a1.f5.length:Int) then (at? a1.f5 x4881).bind fun y5099=>(at? a2 y5099).bind fun y5115=>(at? l4876 x4881).bind fun y5124=>trace_runner_value.l0 a1 a2 n4951 (l4876.set x4881.toNat y5115) (IntKind.i64.wrap (x4881 + 1)) else some l4876)
def trace_runner_value.g (rec28:((List S45) → (List Int) → Int → Int → (List Int) → Int → Int → (List Int) → Int → Int → Int → Int → S45 → (List Int) → Option (Int × Int × (List Int) × Int × (List Int) × Int × Int × (List Int) × Int × Int × Int))) (rec58:((List S45) → (List Int) → Int → Int → (List Int) → Int → Int → (List Int) → Int → Int → Int → Int → S42 → (List Int) → Option (Int × (List Int) × Int × (List Int) × Int × Int × (List Int) × Int × Int × Int × (List Int)))) (rec82:((List S45) → (List Int) → Int → Int → (List Int) → Int → Int → (List Int) → Int → Int → Int → Int → S37 → (List Int) → Option (Int × Int × (List Int) × Int × (List Int) × Int × Int × (List Int) × Int × Int × Int))) (a0_0:(List S45)) (a0_1_0:(List Int)) (a0_1_1:Int) (a0_1_2:Int) (a0_2:(List Int)) (a0_3:Int) (a0_4:Int) (a0_5:(List Int)) (a0_6:Int) (a0_7:Int) (a0_8:Int) (a0_9:Int) (a1:S37) (a2:(List Int)):Option (Int × Int × (List Int) × Int × (List Int) × Int × Int × (List Int) × Int × Int × Int):=(if a1.f0=1 then some (a1.f4,0,a0_1_0,a0_1_1,a0_2,a0_3,a0_4,a0_5,a0_7,a0_8,a0_9) else (if a1.f0=3 then (at? a2 a1.f2).bind fun y3041=>some (y3041,0,a0_1_0,a0_1_1,a0_2,a0_3,a0_4,a0_5,a0_7,a0_8,a0_9) else (if a1.f0=2 then (at? a2 a1.f2).bind fun y3519=>(at? a2 a1.f3).bind fun y3528=>(word_Do.f a1.f4 y3519 y3528).bind fun (y3537:(Int × Int))=>some (y3537.1,y3537.2,a0_1_0,a0_1_1,a0_2,a0_3,a0_4,a0_5,a0_7,a0_8,a0_9) else (if a1.f0=8 then (trace_runner_read.f a0_0 a0_1_0 a0_1_1 a0_1_2 a0_2 a0_3 a0_4 a0_5 a0_6 a0_7 a0_8 a0_9).bind fun (y3919:(Int × Int × (List Int)))=>some (y3919.1,y3919.2.1,a0_1_0,a0_1_1,y3919.2.2,a0_3,a0_4,a0_5,a0_7,a0_8,a0_9) else (if a1.f0=9 then (at? a2 a1.f2).bind fun y4325=>(if a0_5.length < 17592186044416 then some (0,0,a0_1_0,a0_1_1,a0_2,a0_3,a0_4,(a0_5 ++ [y4325]),a0_7,a0_8,a0_9) else none) else (if a1.f0=7 then (if 0 ≤ (a1.f5.length:Int)∧(a1.f5.length:Int) ≤ 17592186044416 then (trace_runner_value.l0 a1 a2 (a1.f5.length + 1) (List.replicate (a1.f5.length:Int).toNat (0:Int)) 0).bind fun (l4946:(List Int))=>(at? a0_0 a1.f4).bind fun y5041=>(rec28 a0_0 a0_1_0 a0_1_1 a0_1_2 a0_2 a0_3 a0_4 a0_5 a0_6 a0_7 a0_8 a0_9 y5041 l4946).bind fun (y5054:(Int × Int × (List Int) × Int × (List Int) × Int × Int × (List Int) × Int × Int × Int))=>some (y5054.1,y5054.2.1,y5054.2.2.1,y5054.2.2.2.1,y5054.2.2.2.2.1,y5054.2.2.2.2.2.1,y5054.2.2.2.2.2.2.1,y5054.2.2.2.2.2.2.2.1,y5054.2.2.2.2.2.2.2.2.1,y5054.2.2.2.2.2.2.2.2.2.1,y5054.2.2.2.2.2.2.2.2.2.2) else none) else (trace_runner_cells.f a0_0 a0_1_0 a0_1_1 a0_1_2 a0_2 a0_3 a0_4 a0_5 a0_6 a0_7 a0_8 a0_9 a1 a2).bind fun (y5130:(Int × Int × (List Int) × Int × Int × Int × Int))=>some (y5130.1,y5130.2.1,y5130.2.2.1,y5130.2.2.2.1,a0_2,a0_3,a0_4,a0_5,y5130.2.2.2.2.1,y5130.2.2.2.2.2.1,y5130.2.2.2.2.2.2)))))))
theorem trace_runner_value.step (rec28:((List S45) → (List Int) → Int → Int → (List Int) → Int → Int → (List Int) → Int → Int → Int → Int → S45 → (List Int) → Option (Int × Int × (List Int) × Int × (List Int) × Int × Int × (List Int) × Int × Int × Int))) (rec58:((List S45) → (List Int) → Int → Int → (List Int) → Int → Int → (List Int) → Int → Int → Int → Int → S42 → (List Int) → Option (Int × (List Int) × Int × (List Int) × Int × Int × (List Int) × Int × Int × Int × (List Int)))) (rec82:((List S45) → (List Int) → Int → Int → (List Int) → Int → Int → (List Int) → Int → Int → Int → Int → S37 → (List Int) → Option (Int × Int × (List Int) × Int × (List Int) × Int × Int × (List Int) × Int × Int × Int))) (ih28:∀ {G:Gd} {r:(Int × Int × (List Int) × Int × (List Int) × Int × Int × (List Int) × Int × Int × Int)} {a0_0:(List S45)} {a0_1_0:(List Int)} {a0_1_1:Int} {a0_1_2:Int} {a0_2:(List Int)} {a0_3:Int} {a0_4:Int} {a0_5:(List Int)} {a0_6:Int} {a0_7:Int} {a0_8:Int} {a0_9:Int} {a1:S45} {a2:(List Int)} {b1:Nat} {A2:Option Addr} {c3:Nat} {b6:Nat} {A7:Option Addr} {c8:Nat} {A10:Option Addr} {c11:Nat} {A14:Option Addr} {c15:Nat} {A17:Option Addr} {c18:Nat} {A21:Option Addr} {c22:Nat} {n24:Nat} (hr4:Rd G k45 A2 a0_0) (hl5:a0_0.length ≤ c3) (hr12:Rd G kI A10 a0_2) (hl13:a0_2.length ≤ c11) (hr19:Rd G k42 A17 a1.f1) (hl20:a1.f1.length ≤ c18),rec28 a0_0 a0_1_0 a0_1_1 a0_1_2 a0_2 a0_3 a0_4 a0_5 a0_6 a0_7 a0_8 a0_9 a1 a2=some r → Fn Try.prog 28 G [Blk b1 [.slice A2 a0_0.length c3,VP b6 0,.slice A10 a0_2.length c11,VI a0_3,VI a0_4,.slice A14 a0_5.length c15,VI a0_6,VI a0_7,VI a0_8,VI a0_9] 58,Blk b6 [.slice A7 a0_1_0.length c8,VI a0_1_1,VI a0_1_2] 89,Row kI 3 (.slice A7 a0_1_0.length c8) a0_1_0,Row kI 3 (.slice A14 a0_5.length c15) a0_5,Row kI 3 (.slice A21 n24 c22) a2] [VP b1 0,.agg #[VI a1.f0,.slice A17 a1.f1.length c18],.slice A21 n24 c22] (trace_runner_call.post G b1 A2 c3 b6 A7 c8 A10 c11 A14 c15 A17 c18 A21 c22 n24 a0_0 a0_1_0 a0_1_1 a0_1_2 a0_2 a0_3 a0_4 a0_5 a0_6 a0_7 a0_8 a0_9 a1 a2 r)) (ih58:∀ {G:Gd} {r:(Int × (List Int) × Int × (List Int) × Int × Int × (List Int) × Int × Int × Int × (List Int))} {a0_0:(List S45)} {a0_1_0:(List Int)} {a0_1_1:Int} {a0_1_2:Int} {a0_2:(List Int)} {a0_3:Int} {a0_4:Int} {a0_5:(List Int)} {a0_6:Int} {a0_7:Int} {a0_8:Int} {a0_9:Int} {a1:S42} {a2:(List Int)} {b1:Nat} {A2:Option Addr} {c3:Nat} {b6:Nat} {A7:Option Addr} {c8:Nat} {A10:Option Addr} {c11:Nat} {A14:Option Addr} {c15:Nat} {A17:Option Addr} {c18:Nat} {A21:Option Addr} {c22:Nat} {n24:Nat} (hr4:Rd G k45 A2 a0_0) (hl5:a0_0.length ≤ c3) (hr12:Rd G kI A10 a0_2) (hl13:a0_2.length ≤ c11) (hr19:Rd G k37 A17 a1.f0) (hl20:a1.f0.length ≤ c18),rec58 a0_0 a0_1_0 a0_1_1 a0_1_2 a0_2 a0_3 a0_4 a0_5 a0_6 a0_7 a0_8 a0_9 a1 a2=some r → Fn Try.prog 58 G [Blk b1 [.slice A2 a0_0.length c3,VP b6 0,.slice A10 a0_2.length c11,VI a0_3,VI a0_4,.slice A14 a0_5.length c15,VI a0_6,VI a0_7,VI a0_8,VI a0_9] 58,Blk b6 [.slice A7 a0_1_0.length c8,VI a0_1_1,VI a0_1_2] 89,Row kI 3 (.slice A7 a0_1_0.length c8) a0_1_0,Row kI 3 (.slice A14 a0_5.length c15) a0_5,Row kI 3 (.slice A21 n24 c22) a2] [VP b1 0,.agg #[.slice A17 a1.f0.length c18,VI a1.f1.f0,VI a1.f1.f1,VI a1.f1.f2,VI a1.f1.f3],.slice A21 n24 c22] (trace_runner_block.post G b1 A2 c3 b6 A7 c8 A10 c11 A14 c15 A17 c18 A21 c22 n24 a0_0 a0_1_0 a0_1_1 a0_1_2 a0_2 a0_3 a0_4 a0_5 a0_6 a0_7 a0_8 a0_9 a1 a2 r)) (ih82:∀ {G:Gd} {r:(Int × Int × (List Int) × Int × (List Int) × Int × Int × (List Int) × Int × Int × Int)} {a0_0:(List S45)} {a0_1_0:(List Int)} {a0_1_1:Int} {a0_1_2:Int} {a0_2:(List Int)} {a0_3:Int} {a0_4:Int} {a0_5:(List Int)} {a0_6:Int} {a0_7:Int} {a0_8:Int} {a0_9:Int} {a1:S37} {a2:(List Int)} {b1:Nat} {A2:Option Addr} {c3:Nat} {b6:Nat} {A7:Option Addr} {c8:Nat} {A10:Option Addr} {c11:Nat} {A14:Option Addr} {c15:Nat} {A17:Option Addr} {c18:Nat} {A21:Option Addr} {c22:Nat} {n24:Nat} (hr4:Rd G k45 A2 a0_0) (hl5:a0_0.length ≤ c3) (hr12:Rd G kI A10 a0_2) (hl13:a0_2.length ≤ c11) (hr19:Rd G kI A17 a1.f5) (hl20:a1.f5.length ≤ c18),rec82 a0_0 a0_1_0 a0_1_1 a0_1_2 a0_2 a0_3 a0_4 a0_5 a0_6 a0_7 a0_8 a0_9 a1 a2=some r → Fn Try.prog 82 G [Blk b1 [.slice A2 a0_0.length c3,VP b6 0,.slice A10 a0_2.length c11,VI a0_3,VI a0_4,.slice A14 a0_5.length c15,VI a0_6,VI a0_7,VI a0_8,VI a0_9] 58,Blk b6 [.slice A7 a0_1_0.length c8,VI a0_1_1,VI a0_1_2] 89,Row kI 3 (.slice A7 a0_1_0.length c8) a0_1_0,Row kI 3 (.slice A14 a0_5.length c15) a0_5,Row kI 3 (.slice A21 n24 c22) a2] [VP b1 0,.agg #[VI a1.f0,VI a1.f1,VI a1.f2,VI a1.f3,VI a1.f4,.slice A17 a1.f5.length c18],.slice A21 n24 c22] (trace_runner_value.post G b1 A2 c3 b6 A7 c8 A10 c11 A14 c15 A17 c18 A21 c22 n24 a0_0 a0_1_0 a0_1_1 a0_1_2 a0_2 a0_3 a0_4 a0_5 a0_6 a0_7 a0_8 a0_9 a1 a2 r)) {G:Gd} {r:(Int × Int × (List Int) × Int × (List Int) × Int × Int × (List Int) × Int × Int × Int)} {a0_0:(List S45)} {a0_1_0:(List Int)} {a0_1_1:Int} {a0_1_2:Int} {a0_2:(List Int)} {a0_3:Int} {a0_4:Int} {a0_5:(List Int)} {a0_6:Int} {a0_7:Int} {a0_8:Int} {a0_9:Int} {a1:S37} {a2:(List Int)} {b1:Nat} {A2:Option Addr} {c3:Nat} {b6:Nat} {A7:Option Addr} {c8:Nat} {A10:Option Addr} {c11:Nat} {A14:Option Addr} {c15:Nat} {A17:Option Addr} {c18:Nat} {A21:Option Addr} {c22:Nat} {n24:Nat} (hr4:Rd G k45 A2 a0_0) (hl5:a0_0.length ≤ c3) (hr12:Rd G kI A10 a0_2) (hl13:a0_2.length ≤ c11) (hr19:Rd G kI A17 a1.f5) (hl20:a1.f5.length ≤ c18) (h:trace_runner_value.g rec28 rec58 rec82 a0_0 a0_1_0 a0_1_1 a0_1_2 a0_2 a0_3 a0_4 a0_5 a0_6 a0_7 a0_8 a0_9 a1 a2=some r):Fn Try.prog 82 G [Blk b1 [.slice A2 a0_0.length c3,VP b6 0,.slice A10 a0_2.length c11,VI a0_3,VI a0_4,.slice A14 a0_5.length c15,VI a0_6,VI a0_7,VI a0_8,VI a0_9] 58,Blk b6 [.slice A7 a0_1_0.length c8,VI a0_1_1,VI a0_1_2] 89,Row kI 3 (.slice A7 a0_1_0.length c8) a0_1_0,Row kI 3 (.slice A14 a0_5.length c15) a0_5,Row kI 3 (.slice A21 n24 c22) a2] [VP b1 0,.agg #[VI a1.f0,VI a1.f1,VI a1.f2,VI a1.f3,VI a1.f4,.slice A17 a1.f5.length c18],.slice A21 n24 c22] (trace_runner_value.post G b1 A2 c3 b6 A7 c8 A10 c11 A14 c15 A17 c18 A21 c22 n24 a0_0 a0_1_0 a0_1_1 a0_1_2 a0_2 a0_3 a0_4 a0_5 a0_6 a0_7 a0_8 a0_9 a1 a2 r):=by
 refine Fn.intro (e:=[(0,VP b1 0),(1,.agg #[VI a1.f0,VI a1.f1,VI a1.f2,VI a1.f3,VI a1.f4,.slice A17 a1.f5.length c18]),(2,.slice A21 n24 c22)]) 106 Try.func82 rfl Try.ntmps82 rfl rfl (Nat.le_of_ble_eq_true rfl) (fun L=>?_)
 unfold trace_runner_value.g at h
 refine TC.seq ?_
 refine TC.region ?_
 refine TL.cons (TL.box (cs:=[VI a1.f0,VI a1.f1,VI a1.f2,VI a1.f3,VI a1.f4,.slice A17 a1.f5.length c18]) rfl rfl rfl rfl (fun b25=>?_))
 refine TV rfl rfl rfl (Val.assign rfl) ?_
 refine TV rfl rfl rfl (Val.assign rfl) ?_
 refine TL.nil ?_
 refine TQ.then_ ?_
 refine TC.seq ?_
 refine TC.seq ?_
 refine TC.region ?_
 refine TV rfl rfl rfl (Val.fieldAddrB Try.underlying37 rfl fsz3 rfl rfl rfl) ?_
 refine TV rfl rfl rfl (Val.loadB 0 agg3 rfl rfl rfl) ?_
 refine TL.nil ?_
 refine TQ.then_ ?_
 refine TC.block ?_
 refine TC.seq ?_
 refine TC.region ?_
 refine TV rfl rfl rfl (Val.cmp rfl rfl run_eql) ?_
 refine TV rfl rfl rfl (Val.assign rfl) ?_
 refine TL.nil ?_
 refine TQ.then_ ?_
 refine TC.cond_p rfl h (fun hc2581 h=>?_) (fun hc2581 h=>?_)
 ·
  refine TC.seq ?_
  refine TC.region ?_
  refine TV rfl rfl rfl (Val.fieldAddrB Try.underlying37 rfl fsz3 rfl rfl rfl) ?_
  refine TV rfl rfl rfl (Val.loadB 0 agg3 rfl rfl rfl) ?_
  refine TV rfl rfl rfl (Val.assign rfl) ?_
  refine TV rfl rfl rfl (Val.assign rfl) ?_
  refine TL.nil ?_
  refine TQ.then_ ?_
  refine TC.ret ?_
  refine TQ.inBR ?_
  refine TQ.thenR ?_
  obtain rfl:=Option.some.inj h
  exact TQ.fin (.inl rfl) rfl Try.results82 (.tmp rfl (.tmp rfl .nil)) rfl (FRel.mk (Ls:=[Blk b1 [.slice A2 a0_0.length c3,VP b6 0,.slice A10 a0_2.length c11,VI a0_3,VI a0_4,.slice A14 a0_5.length c15,VI a0_6,VI a0_7,VI a0_8,VI a0_9] 58,Blk b6 [.slice A7 a0_1_0.length c8,VI a0_1_1,VI a0_1_2] 89,Row kI 3 (.slice A7 a0_1_0.length c8) a0_1_0,Row kI 3 (.slice A14 a0_5.length c15) a0_5,Row kI 3 (.slice A21 n24 c22) a2]) [1,2,3,4,5] 6 (Gd.le.refl _) rfl rfl rfl ⟨rfl,A7,c8,A10,c11,A14,c15,rfl,rfl,hr12,hl13⟩)
 ·
  refine TC.seq ?_
  refine TC.region ?_
  refine TV rfl rfl rfl (Val.cmp rfl rfl run_eql) ?_
  refine TV rfl rfl rfl (Val.assign rfl) ?_
  refine TL.nil ?_
  refine TQ.then_ ?_
  refine TC.cond_p rfl h (fun hc3033 h=>?_) (fun hc3033 h=>?_)
  ·
   refine TC.seq ?_
   refine TC.region ?_
   refine TV rfl rfl rfl (Val.move rfl) ?_
   refine TV rfl rfl rfl (Val.fieldAddrB Try.underlying37 rfl fsz3 rfl rfl rfl) ?_
   refine TV rfl rfl rfl (Val.loadB 0 agg3 rfl rfl rfl) ?_
   refine TK.rowlen 5 rfl (fun hl3034=>?_)
   refine TK.sel (Ls:=[Row kI 3 (.slice A21 n24 c22) a2,Blk b25 [VI a1.f0,VI a1.f1,VI a1.f2,VI a1.f3,VI a1.f4,.slice A17 a1.f5.length c18] 37,Blk b1 [.slice A2 a0_0.length c3,VP b6 0,.slice A10 a0_2.length c11,VI a0_3,VI a0_4,.slice A14 a0_5.length c15,VI a0_6,VI a0_7,VI a0_8,VI a0_9] 58,Blk b6 [.slice A7 a0_1_0.length c8,VI a0_1_1,VI a0_1_2] 89,Row kI 3 (.slice A7 a0_1_0.length c8) a0_1_0,Row kI 3 (.slice A14 a0_5.length c15) a0_5]) [5,0,1,2,3,4] 6 rfl rfl rfl ?_
   refine TK.share (fun G3035 e3036 hs3037 hb3038=>?_)
   have rd3039:Rd G3035 kI A21 a2:=Rd.row hs3037
   have le3040:a2.length ≤ c22:=Row.le hs3037
   obtain ⟨y3041,hx3042,h⟩:=bind_no h
   obtain ⟨ad3043,cs3049,hA3044,hi3045,hj3046,hcl3047,hK3048⟩:=Rd.at rd3039 hx3042
   obtain rfl:=RdK.int hK3048
   refine TV rfl rfl rfl (Val.indexAddr Try.underlying23 fsz3 rfl hA3044 rfl hi3045 (by omega)) ?_
   refine TV rfl rfl rfl (Val.loadS agg3 rfl (hcl3047 0 _ rfl)) ?_
   refine TV rfl rfl rfl (Val.assign rfl) ?_
   refine TV rfl rfl rfl (Val.assign rfl) ?_
   refine TL.nil ?_
   refine TQ.then_ ?_
   refine TC.ret ?_
   refine TQ.inBR ?_
   refine TQ.thenR ?_
   refine TQ.back hb3038 ?_
   obtain rfl:=Option.some.inj h
   exact TQ.fin (.inl rfl) rfl Try.results82 (.tmp rfl (.tmp rfl .nil)) rfl (FRel.mk (Ls:=[Blk b1 [.slice A2 a0_0.length c3,VP b6 0,.slice A10 a0_2.length c11,VI a0_3,VI a0_4,.slice A14 a0_5.length c15,VI a0_6,VI a0_7,VI a0_8,VI a0_9] 58,Blk b6 [.slice A7 a0_1_0.length c8,VI a0_1_1,VI a0_1_2] 89,Row kI 3 (.slice A7 a0_1_0.length c8) a0_1_0,Row kI 3 (.slice A14 a0_5.length c15) a0_5,Row kI 3 (.slice A21 n24 c22) a2]) [2,3,4,5,0] 6 (Gd.le.refl _) rfl rfl rfl ⟨rfl,A7,c8,A10,c11,A14,c15,rfl,rfl,hr12,hl13⟩)
  ·
   refine TC.seq ?_
   refine TC.region ?_
   refine TV rfl rfl rfl (Val.cmp rfl rfl run_eql) ?_
   refine TV rfl rfl rfl (Val.assign rfl) ?_
   refine TL.nil ?_
   refine TQ.then_ ?_
   refine TC.cond_p rfl h (fun hc3484 h=>?_) (fun hc3484 h=>?_)
   ·
    refine TC.seq ?_
    refine TC.rowlen 5 rfl (fun hl3512=>?_)
    refine TC.sel (Ls:=[Row kI 3 (.slice A21 n24 c22) a2,Blk b25 [VI a1.f0,VI a1.f1,VI a1.f2,VI a1.f3,VI a1.f4,.slice A17 a1.f5.length c18] 37,Blk b1 [.slice A2 a0_0.length c3,VP b6 0,.slice A10 a0_2.length c11,VI a0_3,VI a0_4,.slice A14 a0_5.length c15,VI a0_6,VI a0_7,VI a0_8,VI a0_9] 58,Blk b6 [.slice A7 a0_1_0.length c8,VI a0_1_1,VI a0_1_2] 89,Row kI 3 (.slice A7 a0_1_0.length c8) a0_1_0,Row kI 3 (.slice A14 a0_5.length c15) a0_5]) [5,0,1,2,3,4] 6 rfl rfl rfl ?_
    refine TC.share (fun G3513 e3514 hs3515 hb3516=>?_)
    have rd3517:Rd G3513 kI A21 a2:=Rd.row hs3515
    have le3518:a2.length ≤ c22:=Row.le hs3515
    refine TC.regionAny [] [0,1,2,3,4,5,6,7,8,9,10,11,13,14,15,16] mixed (by kernel_rfl) ?_
    refine TA.take 0 rfl (by kernel_rfl) rfl (PQ.then_ (PQ.inB (PQ.then_ PQ.body))) rfl (Val.fieldAddrB Try.underlying37 rfl fsz3 rfl rfl rfl) (fun W hO=>hO) ?_
    refine TA.take 1 rfl (by kernel_rfl) rfl (PQ.then_ (PQ.inB (PQ.then_ PQ.body))) rfl (Val.loadB 0 agg3 rfl rfl rfl) (fun W hO=>hO) ?_
    refine TA.take 2 rfl (by kernel_rfl) rfl (PQ.then_ (PQ.inB (PQ.then_ PQ.body))) rfl (Val.move rfl) (fun W hO=>hO) ?_
    refine TA.take 3 rfl (by kernel_rfl) rfl (PQ.then_ (PQ.inB (PQ.then_ PQ.body))) rfl (Val.fieldAddrB Try.underlying37 rfl fsz3 rfl rfl rfl) (fun W hO=>hO) ?_
    refine TA.take 4 rfl (by kernel_rfl) rfl (PQ.then_ (PQ.inB (PQ.then_ PQ.body))) rfl (Val.loadB 0 agg3 rfl rfl rfl) (fun W hO=>hO) ?_
    obtain ⟨y3519,hx3520,h⟩:=bind_no h
    obtain ⟨ad3521,cs3527,hA3522,hi3523,hj3524,hcl3525,hK3526⟩:=Rd.at rd3517 hx3520
    obtain rfl:=RdK.int hK3526
    refine TA.take 5 rfl (by kernel_rfl) rfl (PQ.then_ (PQ.inB (PQ.then_ PQ.body))) rfl (Val.indexAddr Try.underlying23 fsz3 rfl hA3522 rfl hi3523 (by omega)) (fun W hO=>hO) ?_
    refine TA.take 6 rfl (by kernel_rfl) rfl (PQ.then_ (PQ.inB (PQ.then_ PQ.body))) rfl (Val.loadS agg3 rfl (hcl3525 0 _ rfl)) (fun W hO=>hO) ?_
    refine TA.take 7 rfl (by kernel_rfl) rfl (PQ.then_ (PQ.inB (PQ.then_ PQ.body))) rfl (Val.move rfl) (fun W hO=>hO) ?_
    refine TA.take 8 rfl (by kernel_rfl) rfl (PQ.then_ (PQ.inB (PQ.then_ PQ.body))) rfl (Val.fieldAddrB Try.underlying37 rfl fsz3 rfl rfl rfl) (fun W hO=>hO) ?_
    refine TA.take 9 rfl (by kernel_rfl) rfl (PQ.then_ (PQ.inB (PQ.then_ PQ.body))) rfl (Val.loadB 0 agg3 rfl rfl rfl) (fun W hO=>hO) ?_
    obtain ⟨y3528,hx3529,h⟩:=bind_no h
    obtain ⟨ad3530,cs3536,hA3531,hi3532,hj3533,hcl3534,hK3535⟩:=Rd.at rd3517 hx3529
    obtain rfl:=RdK.int hK3535
    refine TA.take 10 rfl (by kernel_rfl) rfl (PQ.then_ (PQ.inB (PQ.then_ PQ.body))) rfl (Val.indexAddr Try.underlying23 fsz3 rfl hA3531 rfl hi3532 (by omega)) (fun W hO=>hO) ?_
    refine TA.take 11 rfl (by kernel_rfl) rfl (PQ.then_ (PQ.inB (PQ.then_ PQ.body))) rfl (Val.loadS agg3 rfl (hcl3534 0 _ rfl)) (fun W hO=>hO) ?_
    obtain ⟨y3537,hy3538,h⟩:=bind_no h
    refine TA.eff 12 rfl (by kernel_rfl) rfl (TL.callV (Lin:=[]) (args:=[VI a1.f4,VI y3519,VI y3528]) rfl rfl rfl hbd19 rfl rfl (word_Do.calls (a0:=a1.f4) (a1:=y3519) (a2:=y3528) hy3538) rfl ?_)
    rintro _ _ _ _ ⟨rfl,rfl,rfl⟩
    refine TA.next (fun W hO=>hO) ?_
    refine TA.take 13 rfl (by kernel_rfl) rfl (PQ.then_ (PQ.inB (PQ.then_ PQ.body))) rfl (Val.extract rfl rfl) (fun W hO=>hO) ?_
    refine TA.take 14 rfl (by kernel_rfl) rfl (PQ.then_ (PQ.inB (PQ.then_ PQ.body))) rfl (Val.extract rfl rfl) (fun W hO=>hO) ?_
    refine TA.take 15 rfl (by kernel_rfl) rfl (PQ.then_ (PQ.inB (PQ.then_ PQ.body))) rfl (Val.assign rfl) (fun W hO=>hO) ?_
    refine TA.take 16 rfl (by kernel_rfl) rfl (PQ.then_ (PQ.inB (PQ.then_ PQ.body))) rfl (Val.assign rfl) (fun W hO=>hO) ?_
    refine TA.done (by kernel_rfl) ?_
    refine TQ.then_ ?_
    refine TC.ret ?_
    refine TQ.inBR ?_
    refine TQ.thenR ?_
    refine TQ.back hb3516 ?_
    obtain rfl:=Option.some.inj h
    exact TQ.fin (.inl rfl) rfl Try.results82 (.tmp rfl (.tmp rfl .nil)) rfl (FRel.mk (Ls:=[Blk b1 [.slice A2 a0_0.length c3,VP b6 0,.slice A10 a0_2.length c11,VI a0_3,VI a0_4,.slice A14 a0_5.length c15,VI a0_6,VI a0_7,VI a0_8,VI a0_9] 58,Blk b6 [.slice A7 a0_1_0.length c8,VI a0_1_1,VI a0_1_2] 89,Row kI 3 (.slice A7 a0_1_0.length c8) a0_1_0,Row kI 3 (.slice A14 a0_5.length c15) a0_5,Row kI 3 (.slice A21 n24 c22) a2]) [2,3,4,5,0] 6 (Gd.le.refl _) rfl rfl rfl ⟨rfl,A7,c8,A10,c11,A14,c15,rfl,rfl,hr12,hl13⟩)
   ·
    refine TC.seq ?_
    refine TC.region ?_
    refine TV rfl rfl rfl (Val.cmp rfl rfl run_eql) ?_
    refine TV rfl rfl rfl (Val.assign rfl) ?_
    refine TL.nil ?_
    refine TQ.then_ ?_
    refine TC.cond_p rfl h (fun hc3918 h=>?_) (fun hc3918 h=>?_)
    ·
     refine TC.seq ?_
     refine TC.region ?_
     refine TV rfl rfl rfl (Val.move rfl) ?_
     refine TK.sel (Ls:=[Blk b1 [.slice A2 a0_0.length c3,VP b6 0,.slice A10 a0_2.length c11,VI a0_3,VI a0_4,.slice A14 a0_5.length c15,VI a0_6,VI a0_7,VI a0_8,VI a0_9] 58,Blk b6 [.slice A7 a0_1_0.length c8,VI a0_1_1,VI a0_1_2] 89,Row kI 3 (.slice A7 a0_1_0.length c8) a0_1_0,Row kI 3 (.slice A14 a0_5.length c15) a0_5,Blk b25 [VI a1.f0,VI a1.f1,VI a1.f2,VI a1.f3,VI a1.f4,.slice A17 a1.f5.length c18] 37,Row kI 3 (.slice A21 n24 c22) a2]) [1,2,3,4,0,5] 6 rfl rfl rfl ?_
     obtain ⟨y3919,hy3920,h⟩:=bind_no h
     refine TL.cons (TL.callV (Lin:=[Blk b1 [.slice A2 a0_0.length c3,VP b6 0,.slice A10 a0_2.length c11,VI a0_3,VI a0_4,.slice A14 a0_5.length c15,VI a0_6,VI a0_7,VI a0_8,VI a0_9] 58,Blk b6 [.slice A7 a0_1_0.length c8,VI a0_1_1,VI a0_1_2] 89,Row kI 3 (.slice A7 a0_1_0.length c8) a0_1_0,Row kI 3 (.slice A14 a0_5.length c15) a0_5]) (args:=[VP b1 0]) rfl rfl rfl hbd106 rfl rfl (trace_runner_read.calls (a0_0:=a0_0) (a0_1_0:=a0_1_0) (a0_1_1:=a0_1_1) (a0_1_2:=a0_1_2) (a0_2:=a0_2) (a0_3:=a0_3) (a0_4:=a0_4) (a0_5:=a0_5) (a0_6:=a0_6) (a0_7:=a0_7) (a0_8:=a0_8) (a0_9:=a0_9) hr4 hl5 hr12 hl13 hy3920) rfl ?_)
     rintro _ _ _ _ ⟨rfl,A3921,c3922,rfl,rfl,hr3923,hl3924⟩
     refine TV rfl rfl rfl (Val.extract rfl rfl) ?_
     refine TV rfl rfl rfl (Val.extract rfl rfl) ?_
     refine TV rfl rfl rfl (Val.assign rfl) ?_
     refine TV rfl rfl rfl (Val.assign rfl) ?_
     refine TL.nil ?_
     refine TQ.then_ ?_
     refine TC.ret ?_
     refine TQ.inBR ?_
     refine TQ.thenR ?_
     obtain rfl:=Option.some.inj h
     exact TQ.fin (.inl rfl) rfl Try.results82 (.tmp rfl (.tmp rfl .nil)) rfl (FRel.mk (Ls:=[Blk b1 [.slice A2 a0_0.length c3,VP b6 0,.slice A3921 y3919.2.2.length c3922,VI a0_3,VI a0_4,.slice A14 a0_5.length c15,VI a0_6,VI a0_7,VI a0_8,VI a0_9] 58,Blk b6 [.slice A7 a0_1_0.length c8,VI a0_1_1,VI a0_1_2] 89,Row kI 3 (.slice A7 a0_1_0.length c8) a0_1_0,Row kI 3 (.slice A14 a0_5.length c15) a0_5,Row kI 3 (.slice A21 n24 c22) a2]) [0,1,2,3,5] 6 (Gd.le.refl _) rfl rfl rfl ⟨rfl,A7,c8,A3921,c3922,A14,c15,rfl,rfl,hr3923,hl3924⟩)
    ·
     refine TC.seq ?_
     refine TC.region ?_
     refine TV rfl rfl rfl (Val.cmp rfl rfl run_eql) ?_
     refine TV rfl rfl rfl (Val.assign rfl) ?_
     refine TL.nil ?_
     refine TQ.then_ ?_
     refine TC.cond_p rfl h (fun hc4297 h=>?_) (fun hc4297 h=>?_)
     ·
      refine TC.seq ?_
      refine TC.rowlen 5 rfl (fun hl4318=>?_)
      refine TC.sel (Ls:=[Row kI 3 (.slice A21 n24 c22) a2,Blk b25 [VI a1.f0,VI a1.f1,VI a1.f2,VI a1.f3,VI a1.f4,.slice A17 a1.f5.length c18] 37,Blk b1 [.slice A2 a0_0.length c3,VP b6 0,.slice A10 a0_2.length c11,VI a0_3,VI a0_4,.slice A14 a0_5.length c15,VI a0_6,VI a0_7,VI a0_8,VI a0_9] 58,Blk b6 [.slice A7 a0_1_0.length c8,VI a0_1_1,VI a0_1_2] 89,Row kI 3 (.slice A7 a0_1_0.length c8) a0_1_0,Row kI 3 (.slice A14 a0_5.length c15) a0_5]) [5,0,1,2,3,4] 6 rfl rfl rfl ?_
      refine TC.share (fun G4319 e4320 hs4321 hb4322=>?_)
      have rd4323:Rd G4319 kI A21 a2:=Rd.row hs4321
      have le4324:a2.length ≤ c22:=Row.le hs4321
      refine TC.regionAnyS (L0:=(Blk b25 [VI a1.f0,VI a1.f1,VI a1.f2,VI a1.f3,VI a1.f4,.slice A17 a1.f5.length c18] 37::Blk b1 [.slice A2 a0_0.length c3,VP b6 0,.slice A10 a0_2.length c11,VI a0_3,VI a0_4,.slice A14 a0_5.length c15,VI a0_6,VI a0_7,VI a0_8,VI a0_9] 58::Blk b6 [.slice A7 a0_1_0.length c8,VI a0_1_1,VI a0_1_2] 89::Row kI 3 (.slice A7 a0_1_0.length c8) a0_1_0::L)) [16] [0,1,2,3,4,5,6,7,8,9,10,13,14,15] mixed (by kernel_rfl) ?_
      refine TA.take 0 rfl (by kernel_rfl) rfl (PQ.then_ (PQ.inB (PQ.then_ PQ.body))) rfl (Val.move rfl) (fun W hO=>hO.selT (Ls:=[Blk b25 [VI a1.f0,VI a1.f1,VI a1.f2,VI a1.f3,VI a1.f4,.slice A17 a1.f5.length c18] 37,Blk b1 [.slice A2 a0_0.length c3,VP b6 0,.slice A10 a0_2.length c11,VI a0_3,VI a0_4,.slice A14 a0_5.length c15,VI a0_6,VI a0_7,VI a0_8,VI a0_9] 58,Blk b6 [.slice A7 a0_1_0.length c8,VI a0_1_1,VI a0_1_2] 89,Row kI 3 (.slice A7 a0_1_0.length c8) a0_1_0]) [0,1,2,3] 5 rfl rfl rfl) ?_
      refine TA.take 1 rfl (by kernel_rfl) rfl (PQ.then_ (PQ.inB (PQ.then_ PQ.body))) rfl (Val.move rfl) (fun W hO=>hO.selT (Ls:=[Blk b25 [VI a1.f0,VI a1.f1,VI a1.f2,VI a1.f3,VI a1.f4,.slice A17 a1.f5.length c18] 37,Blk b1 [.slice A2 a0_0.length c3,VP b6 0,.slice A10 a0_2.length c11,VI a0_3,VI a0_4,.slice A14 a0_5.length c15,VI a0_6,VI a0_7,VI a0_8,VI a0_9] 58,Blk b6 [.slice A7 a0_1_0.length c8,VI a0_1_1,VI a0_1_2] 89,Row kI 3 (.slice A7 a0_1_0.length c8) a0_1_0]) [0,1,2,3] 5 rfl rfl rfl) ?_
      refine TA.take 2 rfl (by kernel_rfl) rfl (PQ.then_ (PQ.inB (PQ.then_ PQ.body))) rfl (Val.nilCheck rfl) (fun W hO=>hO.selT (Ls:=[Blk b25 [VI a1.f0,VI a1.f1,VI a1.f2,VI a1.f3,VI a1.f4,.slice A17 a1.f5.length c18] 37,Blk b1 [.slice A2 a0_0.length c3,VP b6 0,.slice A10 a0_2.length c11,VI a0_3,VI a0_4,.slice A14 a0_5.length c15,VI a0_6,VI a0_7,VI a0_8,VI a0_9] 58,Blk b6 [.slice A7 a0_1_0.length c8,VI a0_1_1,VI a0_1_2] 89,Row kI 3 (.slice A7 a0_1_0.length c8) a0_1_0]) [0,1,2,3] 5 rfl rfl rfl) ?_
      refine TA.take 3 rfl (by kernel_rfl) rfl (PQ.then_ (PQ.inB (PQ.then_ PQ.body))) rfl (Val.fieldAddrB Try.underlying58 rfl fsz28 rfl rfl rfl) (fun W hO=>hO.selT (Ls:=[Blk b25 [VI a1.f0,VI a1.f1,VI a1.f2,VI a1.f3,VI a1.f4,.slice A17 a1.f5.length c18] 37,Blk b1 [.slice A2 a0_0.length c3,VP b6 0,.slice A10 a0_2.length c11,VI a0_3,VI a0_4,.slice A14 a0_5.length c15,VI a0_6,VI a0_7,VI a0_8,VI a0_9] 58,Blk b6 [.slice A7 a0_1_0.length c8,VI a0_1_1,VI a0_1_2] 89,Row kI 3 (.slice A7 a0_1_0.length c8) a0_1_0]) [0,1,2,3] 5 rfl rfl rfl) ?_
      refine TA.take 4 rfl (by kernel_rfl) rfl (PQ.then_ (PQ.inB (PQ.then_ PQ.body))) rfl (Val.fieldAddrB Try.underlying28 rfl fsz23 rfl rfl rfl) (fun W hO=>hO.selT (Ls:=[Blk b25 [VI a1.f0,VI a1.f1,VI a1.f2,VI a1.f3,VI a1.f4,.slice A17 a1.f5.length c18] 37,Blk b1 [.slice A2 a0_0.length c3,VP b6 0,.slice A10 a0_2.length c11,VI a0_3,VI a0_4,.slice A14 a0_5.length c15,VI a0_6,VI a0_7,VI a0_8,VI a0_9] 58,Blk b6 [.slice A7 a0_1_0.length c8,VI a0_1_1,VI a0_1_2] 89,Row kI 3 (.slice A7 a0_1_0.length c8) a0_1_0]) [0,1,2,3] 5 rfl rfl rfl) ?_
      refine TA.take 5 rfl (by kernel_rfl) rfl (PQ.then_ (PQ.inB (PQ.then_ PQ.body))) rfl (Val.loadB 1 agg23 rfl rfl rfl) (fun W hO=>hO.selT (Ls:=[Blk b25 [VI a1.f0,VI a1.f1,VI a1.f2,VI a1.f3,VI a1.f4,.slice A17 a1.f5.length c18] 37,Blk b1 [.slice A2 a0_0.length c3,VP b6 0,.slice A10 a0_2.length c11,VI a0_3,VI a0_4,.slice A14 a0_5.length c15,VI a0_6,VI a0_7,VI a0_8,VI a0_9] 58,Blk b6 [.slice A7 a0_1_0.length c8,VI a0_1_1,VI a0_1_2] 89,Row kI 3 (.slice A7 a0_1_0.length c8) a0_1_0]) [0,1,2,3] 5 rfl rfl rfl) ?_
      refine TA.take 6 rfl (by kernel_rfl) rfl (PQ.then_ (PQ.inB (PQ.then_ PQ.body))) rfl (Val.move rfl) (fun W hO=>hO.selT (Ls:=[Blk b25 [VI a1.f0,VI a1.f1,VI a1.f2,VI a1.f3,VI a1.f4,.slice A17 a1.f5.length c18] 37,Blk b1 [.slice A2 a0_0.length c3,VP b6 0,.slice A10 a0_2.length c11,VI a0_3,VI a0_4,.slice A14 a0_5.length c15,VI a0_6,VI a0_7,VI a0_8,VI a0_9] 58,Blk b6 [.slice A7 a0_1_0.length c8,VI a0_1_1,VI a0_1_2] 89,Row kI 3 (.slice A7 a0_1_0.length c8) a0_1_0]) [0,1,2,3] 5 rfl rfl rfl) ?_
      refine TA.take 7 rfl (by kernel_rfl) rfl (PQ.then_ (PQ.inB (PQ.then_ PQ.body))) rfl (Val.fieldAddrB Try.underlying37 rfl fsz3 rfl rfl rfl) (fun W hO=>hO.selT (Ls:=[Blk b25 [VI a1.f0,VI a1.f1,VI a1.f2,VI a1.f3,VI a1.f4,.slice A17 a1.f5.length c18] 37,Blk b1 [.slice A2 a0_0.length c3,VP b6 0,.slice A10 a0_2.length c11,VI a0_3,VI a0_4,.slice A14 a0_5.length c15,VI a0_6,VI a0_7,VI a0_8,VI a0_9] 58,Blk b6 [.slice A7 a0_1_0.length c8,VI a0_1_1,VI a0_1_2] 89,Row kI 3 (.slice A7 a0_1_0.length c8) a0_1_0]) [0,1,2,3] 5 rfl rfl rfl) ?_
      refine TA.take 8 rfl (by kernel_rfl) rfl (PQ.then_ (PQ.inB (PQ.then_ PQ.body))) rfl (Val.loadB 0 agg3 rfl rfl rfl) (fun W hO=>hO.selT (Ls:=[Blk b25 [VI a1.f0,VI a1.f1,VI a1.f2,VI a1.f3,VI a1.f4,.slice A17 a1.f5.length c18] 37,Blk b1 [.slice A2 a0_0.length c3,VP b6 0,.slice A10 a0_2.length c11,VI a0_3,VI a0_4,.slice A14 a0_5.length c15,VI a0_6,VI a0_7,VI a0_8,VI a0_9] 58,Blk b6 [.slice A7 a0_1_0.length c8,VI a0_1_1,VI a0_1_2] 89,Row kI 3 (.slice A7 a0_1_0.length c8) a0_1_0]) [0,1,2,3] 5 rfl rfl rfl) ?_
      obtain ⟨y4325,hx4326,h⟩:=bind_no h
      obtain ⟨ad4327,cs4333,hA4328,hi4329,hj4330,hcl4331,hK4332⟩:=Rd.at rd4323 hx4326
      obtain rfl:=RdK.int hK4332
      refine TA.take 9 rfl (by kernel_rfl) rfl (PQ.then_ (PQ.inB (PQ.then_ PQ.body))) rfl (Val.indexAddr Try.underlying23 fsz3 rfl hA4328 rfl hi4329 (by omega)) (fun W hO=>hO.selT (Ls:=[Blk b25 [VI a1.f0,VI a1.f1,VI a1.f2,VI a1.f3,VI a1.f4,.slice A17 a1.f5.length c18] 37,Blk b1 [.slice A2 a0_0.length c3,VP b6 0,.slice A10 a0_2.length c11,VI a0_3,VI a0_4,.slice A14 a0_5.length c15,VI a0_6,VI a0_7,VI a0_8,VI a0_9] 58,Blk b6 [.slice A7 a0_1_0.length c8,VI a0_1_1,VI a0_1_2] 89,Row kI 3 (.slice A7 a0_1_0.length c8) a0_1_0]) [0,1,2,3] 5 rfl rfl rfl) ?_
      refine TA.take 10 rfl (by kernel_rfl) rfl (PQ.then_ (PQ.inB (PQ.then_ PQ.body))) rfl (Val.loadS agg3 rfl (hcl4331 0 _ rfl)) (fun W hO=>hO.selT (Ls:=[Blk b25 [VI a1.f0,VI a1.f1,VI a1.f2,VI a1.f3,VI a1.f4,.slice A17 a1.f5.length c18] 37,Blk b1 [.slice A2 a0_0.length c3,VP b6 0,.slice A10 a0_2.length c11,VI a0_3,VI a0_4,.slice A14 a0_5.length c15,VI a0_6,VI a0_7,VI a0_8,VI a0_9] 58,Blk b6 [.slice A7 a0_1_0.length c8,VI a0_1_1,VI a0_1_2] 89,Row kI 3 (.slice A7 a0_1_0.length c8) a0_1_0]) [0,1,2,3] 5 rfl rfl rfl) ?_
      refine TA.eff 11 rfl (by kernel_rfl) rfl (TL.buildSlice (xs:=[.tmp 59]) (vs:=[VI y4325]) (cs:=[VI y4325]) rfl rfl Try.underlying23 zs3 rfl rfl rfl rfl rfl rfl rfl rfl (fun b4334=>?_))
      refine TA.next (fun W hO=>hO.selT (Ls:=[Blk b25 [VI a1.f0,VI a1.f1,VI a1.f2,VI a1.f3,VI a1.f4,.slice A17 a1.f5.length c18] 37,Blk b1 [.slice A2 a0_0.length c3,VP b6 0,.slice A10 a0_2.length c11,VI a0_3,VI a0_4,.slice A14 a0_5.length c15,VI a0_6,VI a0_7,VI a0_8,VI a0_9] 58,Blk b6 [.slice A7 a0_1_0.length c8,VI a0_1_1,VI a0_1_2] 89,Row kI 3 (.slice A7 a0_1_0.length c8) a0_1_0]) [1,2,3,4] 6 rfl rfl rfl) ?_
      refine TK.new (El.of (k:=kI) (xv:=y4325) (cs:=[VI y4325]) (fun W B=>rfl)) ?_
      refine TK.sel (Ls:=[Row kI 3 (.slice A14 a0_5.length c15) a0_5,El kI y4325 [VI y4325],Blk b4334 [VI y4325] 3,Blk b25 [VI a1.f0,VI a1.f1,VI a1.f2,VI a1.f3,VI a1.f4,.slice A17 a1.f5.length c18] 37,Blk b1 [.slice A2 a0_0.length c3,VP b6 0,.slice A10 a0_2.length c11,VI a0_3,VI a0_4,.slice A14 a0_5.length c15,VI a0_6,VI a0_7,VI a0_8,VI a0_9] 58,Blk b6 [.slice A7 a0_1_0.length c8,VI a0_1_1,VI a0_1_2] 89,Row kI 3 (.slice A7 a0_1_0.length c8) a0_1_0]) [6,0,1,2,3,4,5] 7 rfl rfl rfl ?_
      obtain ⟨ha4335,h⟩:=ite_no h
      refine TA.eff 12 rfl (by kernel_rfl) rfl (TL.append (xs:=a0_5) kI rfl rfl Try.underlying23 inf3 rfl (Nat.le_of_ble_eq_true rfl) (Nat.le_of_ble_eq_true rfl) rfl rfl (by omega) (fun A4336 c4337=>?_))
      refine TA.next (fun W hO=>hO.selT (Ls:=[Blk b25 [VI a1.f0,VI a1.f1,VI a1.f2,VI a1.f3,VI a1.f4,.slice A17 a1.f5.length c18] 37,Blk b1 [.slice A2 a0_0.length c3,VP b6 0,.slice A10 a0_2.length c11,VI a0_3,VI a0_4,.slice A14 a0_5.length c15,VI a0_6,VI a0_7,VI a0_8,VI a0_9] 58,Blk b6 [.slice A7 a0_1_0.length c8,VI a0_1_1,VI a0_1_2] 89,Row kI 3 (.slice A7 a0_1_0.length c8) a0_1_0]) [1,2,3,4] 5 rfl rfl rfl) ?_
      refine TA.take 13 rfl (by kernel_rfl) rfl (PQ.then_ (PQ.inB (PQ.then_ PQ.body))) rfl (Val.nilCheck rfl) (fun W hO=>hO.selT (Ls:=[Blk b25 [VI a1.f0,VI a1.f1,VI a1.f2,VI a1.f3,VI a1.f4,.slice A17 a1.f5.length c18] 37,Blk b1 [.slice A2 a0_0.length c3,VP b6 0,.slice A10 a0_2.length c11,VI a0_3,VI a0_4,.slice A14 a0_5.length c15,VI a0_6,VI a0_7,VI a0_8,VI a0_9] 58,Blk b6 [.slice A7 a0_1_0.length c8,VI a0_1_1,VI a0_1_2] 89,Row kI 3 (.slice A7 a0_1_0.length c8) a0_1_0]) [1,2,3,4] 5 rfl rfl rfl) ?_
      refine TA.take 14 rfl (by kernel_rfl) rfl (PQ.then_ (PQ.inB (PQ.then_ PQ.body))) rfl (Val.fieldAddrB Try.underlying58 rfl fsz28 rfl rfl rfl) (fun W hO=>hO.selT (Ls:=[Blk b25 [VI a1.f0,VI a1.f1,VI a1.f2,VI a1.f3,VI a1.f4,.slice A17 a1.f5.length c18] 37,Blk b1 [.slice A2 a0_0.length c3,VP b6 0,.slice A10 a0_2.length c11,VI a0_3,VI a0_4,.slice A14 a0_5.length c15,VI a0_6,VI a0_7,VI a0_8,VI a0_9] 58,Blk b6 [.slice A7 a0_1_0.length c8,VI a0_1_1,VI a0_1_2] 89,Row kI 3 (.slice A7 a0_1_0.length c8) a0_1_0]) [1,2,3,4] 5 rfl rfl rfl) ?_
      refine TA.take 15 rfl (by kernel_rfl) rfl (PQ.then_ (PQ.inB (PQ.then_ PQ.body))) rfl (Val.fieldAddrB Try.underlying28 rfl fsz23 rfl rfl rfl) (fun W hO=>hO.selT (Ls:=[Blk b25 [VI a1.f0,VI a1.f1,VI a1.f2,VI a1.f3,VI a1.f4,.slice A17 a1.f5.length c18] 37,Blk b1 [.slice A2 a0_0.length c3,VP b6 0,.slice A10 a0_2.length c11,VI a0_3,VI a0_4,.slice A14 a0_5.length c15,VI a0_6,VI a0_7,VI a0_8,VI a0_9] 58,Blk b6 [.slice A7 a0_1_0.length c8,VI a0_1_1,VI a0_1_2] 89,Row kI 3 (.slice A7 a0_1_0.length c8) a0_1_0]) [1,2,3,4] 5 rfl rfl rfl) ?_
      refine TA.eff 16 rfl (by kernel_rfl) rfl (TL.store 2 (ds:=[.slice A4336 (a0_5 ++ [y4325]).length c4337]) (cs':=[.slice A2 a0_0.length c3,VP b6 0,.slice A10 a0_2.length c11,VI a0_3,VI a0_4,.slice A4336 (a0_5 ++ [y4325]).length c4337,VI a0_6,VI a0_7,VI a0_8,VI a0_9]) (L':=(Row kI 3 (.slice A4336 (a0_5 ++ [y4325]).length c4337) (a0_5 ++ [y4325])::Blk b25 [VI a1.f0,VI a1.f1,VI a1.f2,VI a1.f3,VI a1.f4,.slice A17 a1.f5.length c18] 37::Blk b1 [.slice A2 a0_0.length c3,VP b6 0,.slice A10 a0_2.length c11,VI a0_3,VI a0_4,.slice A4336 (a0_5 ++ [y4325]).length c4337,VI a0_6,VI a0_7,VI a0_8,VI a0_9] 58::Blk b6 [.slice A7 a0_1_0.length c8,VI a0_1_1,VI a0_1_2] 89::Row kI 3 (.slice A7 a0_1_0.length c8) a0_1_0::L)) rfl fsz23 rfl rfl rfl rfl rfl (Nat.le_of_ble_eq_true rfl) rfl rfl ?_)
      refine TA.last rfl ?_
      refine TA.done (by kernel_rfl) ?_
      refine TQ.then_ ?_
      refine TC.seq ?_
      refine TC.region ?_
      refine TV rfl rfl rfl (Val.assign rfl) ?_
      refine TV rfl rfl rfl (Val.assign rfl) ?_
      refine TL.nil ?_
      refine TQ.then_ ?_
      refine TC.ret ?_
      refine TQ.inBR ?_
      refine TQ.thenR ?_
      refine TQ.back hb4322 ?_
      obtain rfl:=Option.some.inj h
      exact TQ.fin (.inl rfl) rfl Try.results82 (.tmp rfl (.tmp rfl .nil)) rfl (FRel.mk (Ls:=[Blk b1 [.slice A2 a0_0.length c3,VP b6 0,.slice A10 a0_2.length c11,VI a0_3,VI a0_4,.slice A4336 (a0_5 ++ [y4325]).length c4337,VI a0_6,VI a0_7,VI a0_8,VI a0_9] 58,Blk b6 [.slice A7 a0_1_0.length c8,VI a0_1_1,VI a0_1_2] 89,Row kI 3 (.slice A7 a0_1_0.length c8) a0_1_0,Row kI 3 (.slice A4336 (a0_5 ++ [y4325]).length c4337) (a0_5 ++ [y4325]),Row kI 3 (.slice A21 n24 c22) a2]) [3,4,5,1,0] 6 (Gd.le.refl _) rfl rfl rfl ⟨rfl,A7,c8,A10,c11,A4336,c4337,rfl,rfl,hr12,hl13⟩)
     ·
      refine TC.seq ?_
      refine TC.region ?_
      refine TV rfl rfl rfl (Val.cmp rfl rfl run_eql) ?_
      refine TV rfl rfl rfl (Val.assign rfl) ?_
      refine TL.nil ?_
      refine TQ.then_ ?_
      refine TC.cond_p rfl h (fun hc4669 h=>?_) (fun hc4669 h=>?_)
      ·
       refine TC.seq ?_
       refine TC.region ?_
       refine TV rfl rfl rfl (Val.fieldAddrB Try.underlying37 rfl fsz23 rfl rfl rfl) ?_
       refine TV rfl rfl rfl (Val.loadB 0 agg23 rfl rfl rfl) ?_
       refine TV rfl rfl rfl (Val.len Try.underlying23 rfl) ?_
       obtain ⟨ha4670,h⟩:=ite_no h
       refine TL.cons (TL.make kI rfl rfl Try.underlying23 inf3 rfl (Nat.le_of_ble_eq_true rfl) (Nat.le_of_ble_eq_true rfl) rfl rfl (fun W B=>rfl) ha4670.1 (by have h_:=ha4670.2; omega) (fun A4671 c4672=>?_))
       refine TV rfl rfl rfl (Val.assign rfl) ?_
       refine TL.nil ?_
       refine TQ.then_ ?_
       refine TC.seq ?_
       refine TC.seq ?_
       refine TC.region ?_
       refine TV rfl rfl rfl (Val.fieldAddrB Try.underlying37 rfl fsz23 rfl rfl rfl) ?_
       refine TV rfl rfl rfl (Val.loadB 1 agg23 rfl rfl rfl) ?_
       refine TV rfl rfl rfl (Val.len Try.underlying23 rfl) ?_
       refine TV rfl rfl rfl (Val.move rfl) ?_
       refine TL.nil ?_
       refine TQ.then_ ?_
       obtain ⟨o4950,ho4950,ko4950⟩:=bind_no h
       clear h
       refine TC.tail (fun a W=>∃ (l4946:(List Int)) (A4947:Option Addr) (c4948:Nat),l4946=o4950∧Fr 106 a [(0,VP b1 0),(4,VP b25 0),(8,.slice A4947 l4946.length c4948)]∧Own G (Blk b1 [.slice A2 a0_0.length c3,VP b6 0,.slice A10 a0_2.length c11,VI a0_3,VI a0_4,.slice A14 a0_5.length c15,VI a0_6,VI a0_7,VI a0_8,VI a0_9] 58::Blk b25 [VI a1.f0,VI a1.f1,VI a1.f2,VI a1.f3,VI a1.f4,.slice A17 a1.f5.length c18] 37::Blk b6 [.slice A7 a0_1_0.length c8,VI a0_1_1,VI a0_1_2] 89::Row kI 3 (.slice A4947 l4946.length c4948) l4946::Row kI 3 (.slice A14 a0_5.length c15) a0_5::Row kI 3 (.slice A7 a0_1_0.length c8) a0_1_0::Row kI 3 (.slice A21 n24 c22) a2::L) W) ?_ ?_
       ·
        rintro a W ⟨l4946,A4947,c4948,rfl,hF,hO⟩
        have h:=ko4950
        clear ko4950 ho4950
        refine TQ.use ?_ hF hO
        clear hF hO
        refine TQ.then_ ?_
        refine TC.seq ?_
        refine TC.regionAnyS (L0:=(Blk b1 [.slice A2 a0_0.length c3,VP b6 0,.slice A10 a0_2.length c11,VI a0_3,VI a0_4,.slice A14 a0_5.length c15,VI a0_6,VI a0_7,VI a0_8,VI a0_9] 58::Blk b25 [VI a1.f0,VI a1.f1,VI a1.f2,VI a1.f3,VI a1.f4,.slice A17 a1.f5.length c18] 37::Blk b6 [.slice A7 a0_1_0.length c8,VI a0_1_1,VI a0_1_2] 89::Row kI 3 (.slice A21 n24 c22) a2::L)) [10,11,12,13,14] [0,1,2,3,4,5,6,7,8,9] mixed (by kernel_rfl) ?_
        refine TA.take 0 rfl (by kernel_rfl) rfl (PQ.then_ (PQ.inB (PQ.then_ PQ.body))) rfl (Val.move rfl) (fun W hO=>hO.selT (Ls:=[Blk b1 [.slice A2 a0_0.length c3,VP b6 0,.slice A10 a0_2.length c11,VI a0_3,VI a0_4,.slice A14 a0_5.length c15,VI a0_6,VI a0_7,VI a0_8,VI a0_9] 58,Blk b25 [VI a1.f0,VI a1.f1,VI a1.f2,VI a1.f3,VI a1.f4,.slice A17 a1.f5.length c18] 37,Blk b6 [.slice A7 a0_1_0.length c8,VI a0_1_1,VI a0_1_2] 89,Row kI 3 (.slice A21 n24 c22) a2]) [0,1,2,6] 7 rfl rfl rfl) ?_
        refine TA.take 1 rfl (by kernel_rfl) rfl (PQ.then_ (PQ.inB (PQ.then_ PQ.body))) rfl (Val.move rfl) (fun W hO=>hO.selT (Ls:=[Blk b1 [.slice A2 a0_0.length c3,VP b6 0,.slice A10 a0_2.length c11,VI a0_3,VI a0_4,.slice A14 a0_5.length c15,VI a0_6,VI a0_7,VI a0_8,VI a0_9] 58,Blk b25 [VI a1.f0,VI a1.f1,VI a1.f2,VI a1.f3,VI a1.f4,.slice A17 a1.f5.length c18] 37,Blk b6 [.slice A7 a0_1_0.length c8,VI a0_1_1,VI a0_1_2] 89,Row kI 3 (.slice A21 n24 c22) a2]) [0,1,2,6] 7 rfl rfl rfl) ?_
        refine TA.take 2 rfl (by kernel_rfl) rfl (PQ.then_ (PQ.inB (PQ.then_ PQ.body))) rfl (Val.nilCheck rfl) (fun W hO=>hO.selT (Ls:=[Blk b1 [.slice A2 a0_0.length c3,VP b6 0,.slice A10 a0_2.length c11,VI a0_3,VI a0_4,.slice A14 a0_5.length c15,VI a0_6,VI a0_7,VI a0_8,VI a0_9] 58,Blk b25 [VI a1.f0,VI a1.f1,VI a1.f2,VI a1.f3,VI a1.f4,.slice A17 a1.f5.length c18] 37,Blk b6 [.slice A7 a0_1_0.length c8,VI a0_1_1,VI a0_1_2] 89,Row kI 3 (.slice A21 n24 c22) a2]) [0,1,2,6] 7 rfl rfl rfl) ?_
        refine TA.take 3 rfl (by kernel_rfl) rfl (PQ.then_ (PQ.inB (PQ.then_ PQ.body))) rfl (Val.fieldAddrB Try.underlying58 rfl fsz22 rfl rfl rfl) (fun W hO=>hO.selT (Ls:=[Blk b1 [.slice A2 a0_0.length c3,VP b6 0,.slice A10 a0_2.length c11,VI a0_3,VI a0_4,.slice A14 a0_5.length c15,VI a0_6,VI a0_7,VI a0_8,VI a0_9] 58,Blk b25 [VI a1.f0,VI a1.f1,VI a1.f2,VI a1.f3,VI a1.f4,.slice A17 a1.f5.length c18] 37,Blk b6 [.slice A7 a0_1_0.length c8,VI a0_1_1,VI a0_1_2] 89,Row kI 3 (.slice A21 n24 c22) a2]) [0,1,2,6] 7 rfl rfl rfl) ?_
        refine TA.take 4 rfl (by kernel_rfl) rfl (PQ.then_ (PQ.inB (PQ.then_ PQ.body))) rfl (Val.loadB 0 agg22 rfl rfl rfl) (fun W hO=>hO.selT (Ls:=[Blk b1 [.slice A2 a0_0.length c3,VP b6 0,.slice A10 a0_2.length c11,VI a0_3,VI a0_4,.slice A14 a0_5.length c15,VI a0_6,VI a0_7,VI a0_8,VI a0_9] 58,Blk b25 [VI a1.f0,VI a1.f1,VI a1.f2,VI a1.f3,VI a1.f4,.slice A17 a1.f5.length c18] 37,Blk b6 [.slice A7 a0_1_0.length c8,VI a0_1_1,VI a0_1_2] 89,Row kI 3 (.slice A21 n24 c22) a2]) [0,1,2,6] 7 rfl rfl rfl) ?_
        refine TA.take 5 rfl (by kernel_rfl) rfl (PQ.then_ (PQ.inB (PQ.then_ PQ.body))) rfl (Val.fieldAddrB Try.underlying37 rfl fsz3 rfl rfl rfl) (fun W hO=>hO.selT (Ls:=[Blk b1 [.slice A2 a0_0.length c3,VP b6 0,.slice A10 a0_2.length c11,VI a0_3,VI a0_4,.slice A14 a0_5.length c15,VI a0_6,VI a0_7,VI a0_8,VI a0_9] 58,Blk b25 [VI a1.f0,VI a1.f1,VI a1.f2,VI a1.f3,VI a1.f4,.slice A17 a1.f5.length c18] 37,Blk b6 [.slice A7 a0_1_0.length c8,VI a0_1_1,VI a0_1_2] 89,Row kI 3 (.slice A21 n24 c22) a2]) [0,1,2,6] 7 rfl rfl rfl) ?_
        refine TA.take 6 rfl (by kernel_rfl) rfl (PQ.then_ (PQ.inB (PQ.then_ PQ.body))) rfl (Val.loadB 1 agg3 rfl rfl rfl) (fun W hO=>hO.selT (Ls:=[Blk b1 [.slice A2 a0_0.length c3,VP b6 0,.slice A10 a0_2.length c11,VI a0_3,VI a0_4,.slice A14 a0_5.length c15,VI a0_6,VI a0_7,VI a0_8,VI a0_9] 58,Blk b25 [VI a1.f0,VI a1.f1,VI a1.f2,VI a1.f3,VI a1.f4,.slice A17 a1.f5.length c18] 37,Blk b6 [.slice A7 a0_1_0.length c8,VI a0_1_1,VI a0_1_2] 89,Row kI 3 (.slice A21 n24 c22) a2]) [0,1,2,6] 7 rfl rfl rfl) ?_
        obtain ⟨y5041,hx5042,h⟩:=bind_no h
        obtain ⟨ad5043,cs5049,hA5044,hi5045,hj5046,hcl5047,hK5048⟩:=Rd.at hr4 hx5042
        obtain ⟨A5050,c5051,rfl,hr5052,hl5053⟩:=k45_openR hK5048
        refine TA.take 7 rfl (by kernel_rfl) rfl (PQ.then_ (PQ.inB (PQ.then_ PQ.body))) rfl (Val.indexAddr Try.underlying22 fsz45 rfl hA5044 rfl hi5045 hj5046) (fun W hO=>hO.selT (Ls:=[Blk b1 [.slice A2 a0_0.length c3,VP b6 0,.slice A10 a0_2.length c11,VI a0_3,VI a0_4,.slice A14 a0_5.length c15,VI a0_6,VI a0_7,VI a0_8,VI a0_9] 58,Blk b25 [VI a1.f0,VI a1.f1,VI a1.f2,VI a1.f3,VI a1.f4,.slice A17 a1.f5.length c18] 37,Blk b6 [.slice A7 a0_1_0.length c8,VI a0_1_1,VI a0_1_2] 89,Row kI 3 (.slice A21 n24 c22) a2]) [0,1,2,6] 7 rfl rfl rfl) ?_
        refine TA.take 8 rfl (by kernel_rfl) rfl (PQ.then_ (PQ.inB (PQ.then_ PQ.body))) rfl (Val.loadsS (cs:=[VI y5041.f0,.slice A5050 y5041.f1.length c5051]) agg45 fsz45 rfl rfl (Cl.sub (off:=0) (n:=2) hcl5047 rfl)) (fun W hO=>hO.selT (Ls:=[Blk b1 [.slice A2 a0_0.length c3,VP b6 0,.slice A10 a0_2.length c11,VI a0_3,VI a0_4,.slice A14 a0_5.length c15,VI a0_6,VI a0_7,VI a0_8,VI a0_9] 58,Blk b25 [VI a1.f0,VI a1.f1,VI a1.f2,VI a1.f3,VI a1.f4,.slice A17 a1.f5.length c18] 37,Blk b6 [.slice A7 a0_1_0.length c8,VI a0_1_1,VI a0_1_2] 89,Row kI 3 (.slice A21 n24 c22) a2]) [0,1,2,6] 7 rfl rfl rfl) ?_
        refine TA.take 9 rfl (by kernel_rfl) rfl (PQ.then_ (PQ.inB (PQ.then_ PQ.body))) rfl (Val.move rfl) (fun W hO=>hO.selT (Ls:=[Blk b1 [.slice A2 a0_0.length c3,VP b6 0,.slice A10 a0_2.length c11,VI a0_3,VI a0_4,.slice A14 a0_5.length c15,VI a0_6,VI a0_7,VI a0_8,VI a0_9] 58,Blk b25 [VI a1.f0,VI a1.f1,VI a1.f2,VI a1.f3,VI a1.f4,.slice A17 a1.f5.length c18] 37,Blk b6 [.slice A7 a0_1_0.length c8,VI a0_1_1,VI a0_1_2] 89,Row kI 3 (.slice A21 n24 c22) a2]) [0,1,2,6] 7 rfl rfl rfl) ?_
        refine TK.sel (Ls:=[Blk b1 [.slice A2 a0_0.length c3,VP b6 0,.slice A10 a0_2.length c11,VI a0_3,VI a0_4,.slice A14 a0_5.length c15,VI a0_6,VI a0_7,VI a0_8,VI a0_9] 58,Blk b6 [.slice A7 a0_1_0.length c8,VI a0_1_1,VI a0_1_2] 89,Row kI 3 (.slice A7 a0_1_0.length c8) a0_1_0,Row kI 3 (.slice A14 a0_5.length c15) a0_5,Row kI 3 (.slice A4947 l4946.length c4948) l4946,Blk b25 [VI a1.f0,VI a1.f1,VI a1.f2,VI a1.f3,VI a1.f4,.slice A17 a1.f5.length c18] 37,Row kI 3 (.slice A21 n24 c22) a2]) [0,2,5,4,3,1,6] 7 rfl rfl rfl ?_
        obtain ⟨y5054,hy5055,h⟩:=bind_no h
        refine TA.eff 10 rfl (by kernel_rfl) rfl (TL.callV (Lin:=[Blk b1 [.slice A2 a0_0.length c3,VP b6 0,.slice A10 a0_2.length c11,VI a0_3,VI a0_4,.slice A14 a0_5.length c15,VI a0_6,VI a0_7,VI a0_8,VI a0_9] 58,Blk b6 [.slice A7 a0_1_0.length c8,VI a0_1_1,VI a0_1_2] 89,Row kI 3 (.slice A7 a0_1_0.length c8) a0_1_0,Row kI 3 (.slice A14 a0_5.length c15) a0_5,Row kI 3 (.slice A4947 l4946.length c4948) l4946]) (args:=[VP b1 0,.agg #[VI y5041.f0,.slice A5050 y5041.f1.length c5051],.slice A4947 l4946.length c4948]) rfl rfl rfl hbd28 rfl rfl (ih28 (a0_0:=a0_0) (a0_1_0:=a0_1_0) (a0_1_1:=a0_1_1) (a0_1_2:=a0_1_2) (a0_2:=a0_2) (a0_3:=a0_3) (a0_4:=a0_4) (a0_5:=a0_5) (a0_6:=a0_6) (a0_7:=a0_7) (a0_8:=a0_8) (a0_9:=a0_9) (a1:=y5041) (a2:=l4946) hr4 hl5 hr12 hl13 hr5052 hl5053 hy5055) rfl ?_)
        rintro _ _ _ _ ⟨rfl,A5056,c5057,A5059,c5060,A5063,c5064,rfl,rfl,hr5061,hl5062⟩
        refine TA.last rfl ?_
        refine TA.effs 11 [12] (by kernel_rfl) ⟨⟨_,rfl,?_⟩,⟨_,rfl,?_⟩,trivial⟩
        ·
         refine TO.val rfl rfl rfl (Val.extract rfl rfl) ?_
         refine TA.last rfl ?_
         refine TA.eff 12 rfl (by kernel_rfl) rfl (TO.val rfl rfl rfl (Val.extract rfl rfl) ?_)
         refine TA.last rfl ?_
         refine TA.eff 13 rfl (by kernel_rfl) rfl (TO.val rfl rfl rfl (Val.assign rfl) ?_)
         refine TA.last rfl ?_
         refine TA.eff 14 rfl (by kernel_rfl) rfl (TO.val rfl rfl rfl (Val.assign rfl) ?_)
         refine TA.last rfl ?_
         refine TA.done (by kernel_rfl) ?_
         refine TQ.then_ ?_
         refine TC.ret ?_
         refine TQ.inBR ?_
         refine TQ.thenR ?_
         obtain rfl:=Option.some.inj h
         exact TQ.fin (.inl rfl) rfl Try.results82 (.tmp rfl (.tmp rfl .nil)) rfl (FRel.mk (Ls:=[Blk b1 [.slice A2 a0_0.length c3,VP b6 0,.slice A5059 y5054.2.2.2.2.1.length c5060,VI y5054.2.2.2.2.2.1,VI y5054.2.2.2.2.2.2.1,.slice A5063 y5054.2.2.2.2.2.2.2.1.length c5064,VI a0_6,VI y5054.2.2.2.2.2.2.2.2.1,VI y5054.2.2.2.2.2.2.2.2.2.1,VI y5054.2.2.2.2.2.2.2.2.2.2] 58,Blk b6 [.slice A5056 y5054.2.2.1.length c5057,VI y5054.2.2.2.1,VI a0_1_2] 89,Row kI 3 (.slice A5056 y5054.2.2.1.length c5057) y5054.2.2.1,Row kI 3 (.slice A5063 y5054.2.2.2.2.2.2.2.1.length c5064) y5054.2.2.2.2.2.2.2.1,Row kI 3 (.slice A21 n24 c22) a2]) [0,1,2,3,6] 7 (Gd.le.refl _) rfl rfl rfl ⟨rfl,A5056,c5057,A5059,c5060,A5063,c5064,rfl,rfl,hr5061,hl5062⟩)
        ·
         refine TO.val rfl rfl rfl (Val.extract rfl rfl) ?_
         refine TA.last rfl ?_
         refine TA.eff 11 rfl (by kernel_rfl) rfl (TO.val rfl rfl rfl (Val.extract rfl rfl) ?_)
         refine TA.last rfl ?_
         refine TA.eff 13 rfl (by kernel_rfl) rfl (TO.val rfl rfl rfl (Val.assign rfl) ?_)
         refine TA.last rfl ?_
         refine TA.eff 14 rfl (by kernel_rfl) rfl (TO.val rfl rfl rfl (Val.assign rfl) ?_)
         refine TA.last rfl ?_
         refine TA.done (by kernel_rfl) ?_
         refine TQ.then_ ?_
         refine TC.ret ?_
         refine TQ.inBR ?_
         refine TQ.thenR ?_
         obtain rfl:=Option.some.inj h
         exact TQ.fin (.inl rfl) rfl Try.results82 (.tmp rfl (.tmp rfl .nil)) rfl (FRel.mk (Ls:=[Blk b1 [.slice A2 a0_0.length c3,VP b6 0,.slice A5059 y5054.2.2.2.2.1.length c5060,VI y5054.2.2.2.2.2.1,VI y5054.2.2.2.2.2.2.1,.slice A5063 y5054.2.2.2.2.2.2.2.1.length c5064,VI a0_6,VI y5054.2.2.2.2.2.2.2.2.1,VI y5054.2.2.2.2.2.2.2.2.2.1,VI y5054.2.2.2.2.2.2.2.2.2.2] 58,Blk b6 [.slice A5056 y5054.2.2.1.length c5057,VI y5054.2.2.2.1,VI a0_1_2] 89,Row kI 3 (.slice A5056 y5054.2.2.1.length c5057) y5054.2.2.1,Row kI 3 (.slice A5063 y5054.2.2.2.2.2.2.2.1.length c5064) y5054.2.2.2.2.2.2.2.1,Row kI 3 (.slice A21 n24 c22) a2]) [0,1,2,3,6] 7 (Gd.le.refl _) rfl rfl rfl ⟨rfl,A5056,c5057,A5059,c5060,A5063,c5064,rfl,rfl,hr5061,hl5062⟩)
       ·
        refine TC.block ?_
        intro a W hF hO
        have hS:∃ (l4876:(List Int)) (x4881:Int) (A4877:Option Addr) (c4878:Nat),trace_runner_value.l0 a1 a2 (a1.f5.length + 1) l4876 x4881=some o4950∧l4876.length=(List.replicate (a1.f5.length:Int).toNat (0:Int)).length∧Fr 106 a [(0,VP b1 0),(2,.slice A21 n24 c22),(4,VP b25 0),(8,.slice A4877 l4876.length c4878),(72,.slice A17 a1.f5.length c18),(73,VI (a1.f5.length:Int)),(74,VI x4881)]∧Own G (Blk b1 [.slice A2 a0_0.length c3,VP b6 0,.slice A10 a0_2.length c11,VI a0_3,VI a0_4,.slice A14 a0_5.length c15,VI a0_6,VI a0_7,VI a0_8,VI a0_9] 58::Blk b25 [VI a1.f0,VI a1.f1,VI a1.f2,VI a1.f3,VI a1.f4,.slice A17 a1.f5.length c18] 37::Blk b6 [.slice A7 a0_1_0.length c8,VI a0_1_1,VI a0_1_2] 89::Row kI 3 (.slice A21 n24 c22) a2::Row kI 3 (.slice A4877 l4876.length c4878) l4876::Row kI 3 (.slice A14 a0_5.length c15) a0_5::Row kI 3 (.slice A7 a0_1_0.length c8) a0_1_0::L) W:=by
         exact ⟨(List.replicate (a1.f5.length:Int).toNat (0:Int)),0,A4671,c4672,ho4950,(by first | rfl | assumption | omega | (simp only [List.length_set]; first | rfl | assumption | omega)),hF.sub ⟨rfl,rfl,rfl,rfl,rfl,rfl,rfl,trivial⟩,hO.selT (Ls:=[Blk b1 [.slice A2 a0_0.length c3,VP b6 0,.slice A10 a0_2.length c11,VI a0_3,VI a0_4,.slice A14 a0_5.length c15,VI a0_6,VI a0_7,VI a0_8,VI a0_9] 58,Blk b25 [VI a1.f0,VI a1.f1,VI a1.f2,VI a1.f3,VI a1.f4,.slice A17 a1.f5.length c18] 37,Blk b6 [.slice A7 a0_1_0.length c8,VI a0_1_1,VI a0_1_2] 89,Row kI 3 (.slice A21 n24 c22) a2,Row kI 3 (.slice A4671 (List.replicate (a1.f5.length:Int).toNat (0:Int)).length c4672) (List.replicate (a1.f5.length:Int).toNat (0:Int)),Row kI 3 (.slice A14 a0_5.length c15) a0_5,Row kI 3 (.slice A7 a0_1_0.length c8) a0_1_0]) [2,1,3,6,0,5,4] 7 rfl rfl rfl⟩
        clear hF hO ho4950 ko4950
        refine TC.loop (fun n4951 a W=>∃ (l4876:(List Int)) (x4881:Int) (A4877:Option Addr) (c4878:Nat),trace_runner_value.l0 a1 a2 n4951 l4876 x4881=some o4950∧l4876.length=(List.replicate (a1.f5.length:Int).toNat (0:Int)).length∧Fr 106 a [(0,VP b1 0),(2,.slice A21 n24 c22),(4,VP b25 0),(8,.slice A4877 l4876.length c4878),(72,.slice A17 a1.f5.length c18),(73,VI (a1.f5.length:Int)),(74,VI x4881)]∧Own G (Blk b1 [.slice A2 a0_0.length c3,VP b6 0,.slice A10 a0_2.length c11,VI a0_3,VI a0_4,.slice A14 a0_5.length c15,VI a0_6,VI a0_7,VI a0_8,VI a0_9] 58::Blk b25 [VI a1.f0,VI a1.f1,VI a1.f2,VI a1.f3,VI a1.f4,.slice A17 a1.f5.length c18] 37::Blk b6 [.slice A7 a0_1_0.length c8,VI a0_1_1,VI a0_1_2] 89::Row kI 3 (.slice A21 n24 c22) a2::Row kI 3 (.slice A4877 l4876.length c4878) l4876::Row kI 3 (.slice A14 a0_5.length c15) a0_5::Row kI 3 (.slice A7 a0_1_0.length c8) a0_1_0::L) W) ?_ ?_ hS
        ·
         rintro a W ⟨l4876,x4881,A4877,c4878,h,hl4880,hF,hO⟩
         exact none_no h
        ·
         clear hS
         rintro n4951 a W ⟨l4876,x4881,A4877,c4878,h,hl4880,hF,hO⟩
         rw [trace_runner_value.l0] at h
         refine TC.use ?_ hF hO
         clear hF hO
         refine TC.seq ?_
         refine TC.region ?_
         refine TV rfl rfl rfl (Val.cmp rfl rfl run_lss) ?_
         refine TL.nil ?_
         refine TQ.then_ ?_
         refine TC.seq ?_
         refine TC.cond_p rfl h (fun hc5067 h=>?_) (fun hc5067 h=>?_)
         ·
          refine TC.skip ?_
          refine TQ.then_ ?_
          refine TC.seq ?_
          refine TC.block ?_
          refine TC.seq ?_
          refine TC.region ?_
          refine TV rfl rfl rfl (Val.move rfl) ?_
          obtain ⟨y5099,hx5100,h⟩:=bind_no h
          obtain ⟨ad5101,cs5107,hA5102,hi5103,hj5104,hcl5105,hK5106⟩:=Rd.at hr19 hx5100
          obtain rfl:=RdK.int hK5106
          refine TV rfl rfl rfl (Val.indexAddr Try.underlying23 fsz3 rfl hA5102 rfl hi5103 hj5104) ?_
          refine TV rfl rfl rfl (Val.loadS agg3 rfl (hcl5105 0 _ rfl)) ?_
          refine TV rfl rfl rfl (Val.assign rfl) ?_
          refine TV rfl rfl rfl (Val.assign rfl) ?_
          refine TL.nil ?_
          refine TQ.then_ ?_
          refine TC.region ?_
          refine TV rfl rfl rfl (Val.move rfl) ?_
          refine TV rfl rfl rfl (Val.move rfl) ?_
          refine TV rfl rfl rfl (Val.move rfl) ?_
          refine TV rfl rfl rfl (Val.move rfl) ?_
          refine TK.rowlen 3 rfl (fun hl5108=>?_)
          refine TK.sel (Ls:=[Row kI 3 (.slice A21 n24 c22) a2,Blk b1 [.slice A2 a0_0.length c3,VP b6 0,.slice A10 a0_2.length c11,VI a0_3,VI a0_4,.slice A14 a0_5.length c15,VI a0_6,VI a0_7,VI a0_8,VI a0_9] 58,Blk b25 [VI a1.f0,VI a1.f1,VI a1.f2,VI a1.f3,VI a1.f4,.slice A17 a1.f5.length c18] 37,Blk b6 [.slice A7 a0_1_0.length c8,VI a0_1_1,VI a0_1_2] 89,Row kI 3 (.slice A4877 l4876.length c4878) l4876,Row kI 3 (.slice A14 a0_5.length c15) a0_5,Row kI 3 (.slice A7 a0_1_0.length c8) a0_1_0]) [3,0,1,2,4,5,6] 7 rfl rfl rfl ?_
          refine TK.share (fun G5109 e5110 hs5111 hb5112=>?_)
          have rd5113:Rd G5109 kI A21 a2:=Rd.row hs5111
          have le5114:a2.length ≤ c22:=Row.le hs5111
          obtain ⟨y5115,hx5116,h⟩:=bind_no h
          obtain ⟨ad5117,cs5123,hA5118,hi5119,hj5120,hcl5121,hK5122⟩:=Rd.at rd5113 hx5116
          obtain rfl:=RdK.int hK5122
          refine TV rfl rfl rfl (Val.indexAddr Try.underlying23 fsz3 rfl hA5118 rfl hi5119 (by omega)) ?_
          refine TV rfl rfl rfl (Val.loadS agg3 rfl (hcl5121 0 _ rfl)) ?_
          obtain ⟨y5124,hy5125,h⟩:=bind_no h
          refine TK.opened 3 rfl hy5125 (fun b5126 hA5127 hi5128 hj5129=>?_)
          refine TV rfl rfl rfl (Val.indexAddrW Try.underlying23 fsz3 rfl hA5127 rfl hi5128 hj5129) ?_
          refine TK.new (El.of (k:=kI) (xv:=y5115) (cs:=[VI y5115]) (fun W B=>rfl)) ?_
          refine TK.sel (Ls:=[Row kI 3 (.slice A4877 l4876.length c4878) l4876,El kI y5115 [VI y5115],Blk b1 [.slice A2 a0_0.length c3,VP b6 0,.slice A10 a0_2.length c11,VI a0_3,VI a0_4,.slice A14 a0_5.length c15,VI a0_6,VI a0_7,VI a0_8,VI a0_9] 58,Blk b25 [VI a1.f0,VI a1.f1,VI a1.f2,VI a1.f3,VI a1.f4,.slice A17 a1.f5.length c18] 37,Blk b6 [.slice A7 a0_1_0.length c8,VI a0_1_1,VI a0_1_2] 89,Row kI 3 (.slice A14 a0_5.length c15) a0_5,Row kI 3 (.slice A7 a0_1_0.length c8) a0_1_0]) [4,0,1,2,3,5,6] 7 rfl rfl rfl ?_
          refine TL.cons (TL.storeE kI (xs:=l4876) (xv:=y5115) (ds:=[VI y5115]) rfl fsz3 hA5127 hy5125 rfl rfl rfl rfl (Nat.le_of_ble_eq_true rfl) (wholeM rfl) ?_)
          rw [show (l4876.length:Nat)=(l4876.set x4881.toNat y5115).length from by simp only [List.length_set]]
          refine TL.nil ?_
          refine TQ.inB ?_
          refine TQ.then_ ?_
          refine TC.region ?_
          refine TV rfl rfl rfl (Val.cmp rfl rfl run_add) ?_
          refine TV rfl rfl rfl (Val.move rfl) ?_
          refine TL.nil ?_
          refine TQ.back hb5112 ?_
          exact fun a W hF hO=>⟨(l4876.set x4881.toNat y5115),IntKind.i64.wrap (x4881 + 1),A4877,c4878,h,(by first | rfl | assumption | omega | (simp only [List.length_set]; first | rfl | assumption | omega)),hF.sub ⟨rfl,rfl,rfl,rfl,rfl,rfl,rfl,trivial⟩,hO.selT (Ls:=[Blk b1 [.slice A2 a0_0.length c3,VP b6 0,.slice A10 a0_2.length c11,VI a0_3,VI a0_4,.slice A14 a0_5.length c15,VI a0_6,VI a0_7,VI a0_8,VI a0_9] 58,Blk b25 [VI a1.f0,VI a1.f1,VI a1.f2,VI a1.f3,VI a1.f4,.slice A17 a1.f5.length c18] 37,Blk b6 [.slice A7 a0_1_0.length c8,VI a0_1_1,VI a0_1_2] 89,Row kI 3 (.slice A21 n24 c22) a2,Row kI 3 (.slice A4877 (l4876.set x4881.toNat y5115).length c4878) (l4876.set x4881.toNat y5115),Row kI 3 (.slice A14 a0_5.length c15) a0_5,Row kI 3 (.slice A7 a0_1_0.length c8) a0_1_0]) [2,3,4,0,1,5,6] 7 rfl rfl rfl⟩
         ·
          refine TC.exit ?_
          refine TQ.thenX ?_
          refine TQ.thenX ?_
          refine TQ.inBX ?_
          exact fun a W hF hO=>⟨l4876,A4877,c4878,Option.some.inj h,hF.sub ⟨rfl,rfl,rfl,trivial⟩,hO.selT (Ls:=[Blk b1 [.slice A2 a0_0.length c3,VP b6 0,.slice A10 a0_2.length c11,VI a0_3,VI a0_4,.slice A14 a0_5.length c15,VI a0_6,VI a0_7,VI a0_8,VI a0_9] 58,Blk b25 [VI a1.f0,VI a1.f1,VI a1.f2,VI a1.f3,VI a1.f4,.slice A17 a1.f5.length c18] 37,Blk b6 [.slice A7 a0_1_0.length c8,VI a0_1_1,VI a0_1_2] 89,Row kI 3 (.slice A4877 l4876.length c4878) l4876,Row kI 3 (.slice A14 a0_5.length c15) a0_5,Row kI 3 (.slice A7 a0_1_0.length c8) a0_1_0,Row kI 3 (.slice A21 n24 c22) a2]) [0,1,2,4,5,6,3] 7 rfl rfl rfl⟩
      ·
       refine TC.skip ?_
       refine TQ.inB ?_
       refine TQ.then_ ?_
       refine TC.seq ?_
       refine TC.region ?_
       refine TV rfl rfl rfl (Val.move rfl) ?_
       refine TV rfl rfl rfl (Val.loadsB 0 (cs:=[VI a1.f0,VI a1.f1,VI a1.f2,VI a1.f3,VI a1.f4,.slice A17 a1.f5.length c18]) agg37 fsz37 rfl rfl rfl rfl) ?_
       refine TV rfl rfl rfl (Val.move rfl) ?_
       refine TK.sel (Ls:=[Blk b1 [.slice A2 a0_0.length c3,VP b6 0,.slice A10 a0_2.length c11,VI a0_3,VI a0_4,.slice A14 a0_5.length c15,VI a0_6,VI a0_7,VI a0_8,VI a0_9] 58,Blk b6 [.slice A7 a0_1_0.length c8,VI a0_1_1,VI a0_1_2] 89,Row kI 3 (.slice A7 a0_1_0.length c8) a0_1_0,Row kI 3 (.slice A14 a0_5.length c15) a0_5,Row kI 3 (.slice A21 n24 c22) a2,Blk b25 [VI a1.f0,VI a1.f1,VI a1.f2,VI a1.f3,VI a1.f4,.slice A17 a1.f5.length c18] 37]) [1,2,3,4,5,0] 6 rfl rfl rfl ?_
       obtain ⟨y5130,hy5131,h⟩:=bind_no h
       refine TL.cons (TL.callV (Lin:=[Blk b1 [.slice A2 a0_0.length c3,VP b6 0,.slice A10 a0_2.length c11,VI a0_3,VI a0_4,.slice A14 a0_5.length c15,VI a0_6,VI a0_7,VI a0_8,VI a0_9] 58,Blk b6 [.slice A7 a0_1_0.length c8,VI a0_1_1,VI a0_1_2] 89,Row kI 3 (.slice A7 a0_1_0.length c8) a0_1_0,Row kI 3 (.slice A14 a0_5.length c15) a0_5,Row kI 3 (.slice A21 n24 c22) a2]) (args:=[VP b1 0,.agg #[VI a1.f0,VI a1.f1,VI a1.f2,VI a1.f3,VI a1.f4,.slice A17 a1.f5.length c18],.slice A21 n24 c22]) rfl rfl rfl hbd107 rfl rfl (trace_runner_cells.calls (a0_0:=a0_0) (a0_1_0:=a0_1_0) (a0_1_1:=a0_1_1) (a0_1_2:=a0_1_2) (a0_2:=a0_2) (a0_3:=a0_3) (a0_4:=a0_4) (a0_5:=a0_5) (a0_6:=a0_6) (a0_7:=a0_7) (a0_8:=a0_8) (a0_9:=a0_9) (a1:=a1) (a2:=a2) hr4 hl5 hr12 hl13 hr19 hl20 hy5131) rfl ?_)
       rintro _ _ _ _ ⟨rfl,A5132,c5133,rfl,rfl⟩
       refine TV rfl rfl rfl (Val.extract rfl rfl) ?_
       refine TV rfl rfl rfl (Val.extract rfl rfl) ?_
       refine TV rfl rfl rfl (Val.assign rfl) ?_
       refine TV rfl rfl rfl (Val.assign rfl) ?_
       refine TL.nil ?_
       refine TQ.then_ ?_
       refine TC.ret ?_
       obtain rfl:=Option.some.inj h
       exact TQ.fin (.inl rfl) rfl Try.results82 (.tmp rfl (.tmp rfl .nil)) rfl (FRel.mk (Ls:=[Blk b1 [.slice A2 a0_0.length c3,VP b6 0,.slice A10 a0_2.length c11,VI a0_3,VI a0_4,.slice A14 a0_5.length c15,VI a0_6,VI y5130.2.2.2.2.1,VI y5130.2.2.2.2.2.1,VI y5130.2.2.2.2.2.2] 58,Blk b6 [.slice A5132 y5130.2.2.1.length c5133,VI y5130.2.2.2.1,VI a0_1_2] 89,Row kI 3 (.slice A5132 y5130.2.2.1.length c5133) y5130.2.2.1,Row kI 3 (.slice A14 a0_5.length c15) a0_5,Row kI 3 (.slice A21 n24 c22) a2]) [0,1,2,3,4] 6 (Gd.le.refl _) rfl rfl rfl ⟨rfl,A5132,c5133,A10,c11,A14,c15,rfl,rfl,hr12,hl13⟩)
def trace_runner_call.fix:Nat → ((List S45) → (List Int) → Int → Int → (List Int) → Int → Int → (List Int) → Int → Int → Int → Int → S45 → (List Int) → Option (Int × Int × (List Int) × Int × (List Int) × Int × Int × (List Int) × Int × Int × Int)) × ((List S45) → (List Int) → Int → Int → (List Int) → Int → Int → (List Int) → Int → Int → Int → Int → S42 → (List Int) → Option (Int × (List Int) × Int × (List Int) × Int × Int × (List Int) × Int × Int × Int × (List Int))) × ((List S45) → (List Int) → Int → Int → (List Int) → Int → Int → (List Int) → Int → Int → Int → Int → S37 → (List Int) → Option (Int × Int × (List Int) × Int × (List Int) × Int × Int × (List Int) × Int × Int × Int))
 | 0=>((fun _ _ _ _ _ _ _ _ _ _ _ _ _ _=>none),(fun _ _ _ _ _ _ _ _ _ _ _ _ _ _=>none),(fun _ _ _ _ _ _ _ _ _ _ _ _ _ _=>none))
 | n + 1=>(trace_runner_call.g (trace_runner_call.fix n).1 (trace_runner_call.fix n).2.1 (trace_runner_call.fix n).2.2,trace_runner_block.g (trace_runner_call.fix n).1 (trace_runner_call.fix n).2.1 (trace_runner_call.fix n).2.2,trace_runner_value.g (trace_runner_call.fix n).1 (trace_runner_call.fix n).2.1 (trace_runner_call.fix n).2.2)
theorem trace_runner_call.fixc:∀ k,(∀ {G:Gd} {r:(Int × Int × (List Int) × Int × (List Int) × Int × Int × (List Int) × Int × Int × Int)} {a0_0:(List S45)} {a0_1_0:(List Int)} {a0_1_1:Int} {a0_1_2:Int} {a0_2:(List Int)} {a0_3:Int} {a0_4:Int} {a0_5:(List Int)} {a0_6:Int} {a0_7:Int} {a0_8:Int} {a0_9:Int} {a1:S45} {a2:(List Int)} {b1:Nat} {A2:Option Addr} {c3:Nat} {b6:Nat} {A7:Option Addr} {c8:Nat} {A10:Option Addr} {c11:Nat} {A14:Option Addr} {c15:Nat} {A17:Option Addr} {c18:Nat} {A21:Option Addr} {c22:Nat} {n24:Nat} (hr4:Rd G k45 A2 a0_0) (hl5:a0_0.length ≤ c3) (hr12:Rd G kI A10 a0_2) (hl13:a0_2.length ≤ c11) (hr19:Rd G k42 A17 a1.f1) (hl20:a1.f1.length ≤ c18),(trace_runner_call.fix k).1 a0_0 a0_1_0 a0_1_1 a0_1_2 a0_2 a0_3 a0_4 a0_5 a0_6 a0_7 a0_8 a0_9 a1 a2=some r → Fn Try.prog 28 G [Blk b1 [.slice A2 a0_0.length c3,VP b6 0,.slice A10 a0_2.length c11,VI a0_3,VI a0_4,.slice A14 a0_5.length c15,VI a0_6,VI a0_7,VI a0_8,VI a0_9] 58,Blk b6 [.slice A7 a0_1_0.length c8,VI a0_1_1,VI a0_1_2] 89,Row kI 3 (.slice A7 a0_1_0.length c8) a0_1_0,Row kI 3 (.slice A14 a0_5.length c15) a0_5,Row kI 3 (.slice A21 n24 c22) a2] [VP b1 0,.agg #[VI a1.f0,.slice A17 a1.f1.length c18],.slice A21 n24 c22] (trace_runner_call.post G b1 A2 c3 b6 A7 c8 A10 c11 A14 c15 A17 c18 A21 c22 n24 a0_0 a0_1_0 a0_1_1 a0_1_2 a0_2 a0_3 a0_4 a0_5 a0_6 a0_7 a0_8 a0_9 a1 a2 r))∧(∀ {G:Gd} {r:(Int × (List Int) × Int × (List Int) × Int × Int × (List Int) × Int × Int × Int × (List Int))} {a0_0:(List S45)} {a0_1_0:(List Int)} {a0_1_1:Int} {a0_1_2:Int} {a0_2:(List Int)} {a0_3:Int} {a0_4:Int} {a0_5:(List Int)} {a0_6:Int} {a0_7:Int} {a0_8:Int} {a0_9:Int} {a1:S42} {a2:(List Int)} {b1:Nat} {A2:Option Addr} {c3:Nat} {b6:Nat} {A7:Option Addr} {c8:Nat} {A10:Option Addr} {c11:Nat} {A14:Option Addr} {c15:Nat} {A17:Option Addr} {c18:Nat} {A21:Option Addr} {c22:Nat} {n24:Nat} (hr4:Rd G k45 A2 a0_0) (hl5:a0_0.length ≤ c3) (hr12:Rd G kI A10 a0_2) (hl13:a0_2.length ≤ c11) (hr19:Rd G k37 A17 a1.f0) (hl20:a1.f0.length ≤ c18),(trace_runner_call.fix k).2.1 a0_0 a0_1_0 a0_1_1 a0_1_2 a0_2 a0_3 a0_4 a0_5 a0_6 a0_7 a0_8 a0_9 a1 a2=some r → Fn Try.prog 58 G [Blk b1 [.slice A2 a0_0.length c3,VP b6 0,.slice A10 a0_2.length c11,VI a0_3,VI a0_4,.slice A14 a0_5.length c15,VI a0_6,VI a0_7,VI a0_8,VI a0_9] 58,Blk b6 [.slice A7 a0_1_0.length c8,VI a0_1_1,VI a0_1_2] 89,Row kI 3 (.slice A7 a0_1_0.length c8) a0_1_0,Row kI 3 (.slice A14 a0_5.length c15) a0_5,Row kI 3 (.slice A21 n24 c22) a2] [VP b1 0,.agg #[.slice A17 a1.f0.length c18,VI a1.f1.f0,VI a1.f1.f1,VI a1.f1.f2,VI a1.f1.f3],.slice A21 n24 c22] (trace_runner_block.post G b1 A2 c3 b6 A7 c8 A10 c11 A14 c15 A17 c18 A21 c22 n24 a0_0 a0_1_0 a0_1_1 a0_1_2 a0_2 a0_3 a0_4 a0_5 a0_6 a0_7 a0_8 a0_9 a1 a2 r))∧(∀ {G:Gd} {r:(Int × Int × (List Int) × Int × (List Int) × Int × Int × (List Int) × Int × Int × Int)} {a0_0:(List S45)} {a0_1_0:(List Int)} {a0_1_1:Int} {a0_1_2:Int} {a0_2:(List Int)} {a0_3:Int} {a0_4:Int} {a0_5:(List Int)} {a0_6:Int} {a0_7:Int} {a0_8:Int} {a0_9:Int} {a1:S37} {a2:(List Int)} {b1:Nat} {A2:Option Addr} {c3:Nat} {b6:Nat} {A7:Option Addr} {c8:Nat} {A10:Option Addr} {c11:Nat} {A14:Option Addr} {c15:Nat} {A17:Option Addr} {c18:Nat} {A21:Option Addr} {c22:Nat} {n24:Nat} (hr4:Rd G k45 A2 a0_0) (hl5:a0_0.length ≤ c3) (hr12:Rd G kI A10 a0_2) (hl13:a0_2.length ≤ c11) (hr19:Rd G kI A17 a1.f5) (hl20:a1.f5.length ≤ c18),(trace_runner_call.fix k).2.2 a0_0 a0_1_0 a0_1_1 a0_1_2 a0_2 a0_3 a0_4 a0_5 a0_6 a0_7 a0_8 a0_9 a1 a2=some r → Fn Try.prog 82 G [Blk b1 [.slice A2 a0_0.length c3,VP b6 0,.slice A10 a0_2.length c11,VI a0_3,VI a0_4,.slice A14 a0_5.length c15,VI a0_6,VI a0_7,VI a0_8,VI a0_9] 58,Blk b6 [.slice A7 a0_1_0.length c8,VI a0_1_1,VI a0_1_2] 89,Row kI 3 (.slice A7 a0_1_0.length c8) a0_1_0,Row kI 3 (.slice A14 a0_5.length c15) a0_5,Row kI 3 (.slice A21 n24 c22) a2] [VP b1 0,.agg #[VI a1.f0,VI a1.f1,VI a1.f2,VI a1.f3,VI a1.f4,.slice A17 a1.f5.length c18],.slice A21 n24 c22] (trace_runner_value.post G b1 A2 c3 b6 A7 c8 A10 c11 A14 c15 A17 c18 A21 c22 n24 a0_0 a0_1_0 a0_1_1 a0_1_2 a0_2 a0_3 a0_4 a0_5 a0_6 a0_7 a0_8 a0_9 a1 a2 r))∧True
 | 0=>⟨(by intros; contradiction),(by intros; contradiction),(by intros; contradiction),trivial⟩
 | k + 1=>by
  have ih:=trace_runner_call.fixc k
  exact ⟨(by
   intro G r a0_0 a0_1_0 a0_1_1 a0_1_2 a0_2 a0_3 a0_4 a0_5 a0_6 a0_7 a0_8 a0_9 a1 a2 b1 A2 c3 b6 A7 c8 A10 c11 A14 c15 A17 c18 A21 c22 n24 hr4 hl5 hr12 hl13 hr19 hl20 h
   exact trace_runner_call.step _ _ _ ih.1 ih.2.1 ih.2.2.1 hr4 hl5 hr12 hl13 hr19 hl20 h),(by
   intro G r a0_0 a0_1_0 a0_1_1 a0_1_2 a0_2 a0_3 a0_4 a0_5 a0_6 a0_7 a0_8 a0_9 a1 a2 b1 A2 c3 b6 A7 c8 A10 c11 A14 c15 A17 c18 A21 c22 n24 hr4 hl5 hr12 hl13 hr19 hl20 h
   exact trace_runner_block.step _ _ _ ih.1 ih.2.1 ih.2.2.1 hr4 hl5 hr12 hl13 hr19 hl20 h),(by
   intro G r a0_0 a0_1_0 a0_1_1 a0_1_2 a0_2 a0_3 a0_4 a0_5 a0_6 a0_7 a0_8 a0_9 a1 a2 b1 A2 c3 b6 A7 c8 A10 c11 A14 c15 A17 c18 A21 c22 n24 hr4 hl5 hr12 hl13 hr19 hl20 h
   exact trace_runner_value.step _ _ _ ih.1 ih.2.1 ih.2.2.1 hr4 hl5 hr12 hl13 hr19 hl20 h),trivial⟩
def trace_runner_call.f (a0_0:(List S45)) (a0_1_0:(List Int)) (a0_1_1:Int) (a0_1_2:Int) (a0_2:(List Int)) (a0_3:Int) (a0_4:Int) (a0_5:(List Int)) (a0_6:Int) (a0_7:Int) (a0_8:Int) (a0_9:Int) (a1:S45) (a2:(List Int)):Option (Int × Int × (List Int) × Int × (List Int) × Int × Int × (List Int) × Int × Int × Int):=(trace_runner_call.fix 100000).1 a0_0 a0_1_0 a0_1_1 a0_1_2 a0_2 a0_3 a0_4 a0_5 a0_6 a0_7 a0_8 a0_9 a1 a2
theorem trace_runner_call.calls {G:Gd} {r:(Int × Int × (List Int) × Int × (List Int) × Int × Int × (List Int) × Int × Int × Int)} {a0_0:(List S45)} {a0_1_0:(List Int)} {a0_1_1:Int} {a0_1_2:Int} {a0_2:(List Int)} {a0_3:Int} {a0_4:Int} {a0_5:(List Int)} {a0_6:Int} {a0_7:Int} {a0_8:Int} {a0_9:Int} {a1:S45} {a2:(List Int)} {b1:Nat} {A2:Option Addr} {c3:Nat} {b6:Nat} {A7:Option Addr} {c8:Nat} {A10:Option Addr} {c11:Nat} {A14:Option Addr} {c15:Nat} {A17:Option Addr} {c18:Nat} {A21:Option Addr} {c22:Nat} {n24:Nat} (hr4:Rd G k45 A2 a0_0) (hl5:a0_0.length ≤ c3) (hr12:Rd G kI A10 a0_2) (hl13:a0_2.length ≤ c11) (hr19:Rd G k42 A17 a1.f1) (hl20:a1.f1.length ≤ c18) (h:trace_runner_call.f a0_0 a0_1_0 a0_1_1 a0_1_2 a0_2 a0_3 a0_4 a0_5 a0_6 a0_7 a0_8 a0_9 a1 a2=some r):Fn Try.prog 28 G [Blk b1 [.slice A2 a0_0.length c3,VP b6 0,.slice A10 a0_2.length c11,VI a0_3,VI a0_4,.slice A14 a0_5.length c15,VI a0_6,VI a0_7,VI a0_8,VI a0_9] 58,Blk b6 [.slice A7 a0_1_0.length c8,VI a0_1_1,VI a0_1_2] 89,Row kI 3 (.slice A7 a0_1_0.length c8) a0_1_0,Row kI 3 (.slice A14 a0_5.length c15) a0_5,Row kI 3 (.slice A21 n24 c22) a2] [VP b1 0,.agg #[VI a1.f0,.slice A17 a1.f1.length c18],.slice A21 n24 c22] (trace_runner_call.post G b1 A2 c3 b6 A7 c8 A10 c11 A14 c15 A17 c18 A21 c22 n24 a0_0 a0_1_0 a0_1_1 a0_1_2 a0_2 a0_3 a0_4 a0_5 a0_6 a0_7 a0_8 a0_9 a1 a2 r):=(trace_runner_call.fixc 100000).1 hr4 hl5 hr12 hl13 hr19 hl20 h
def trace_runner_block.f (a0_0:(List S45)) (a0_1_0:(List Int)) (a0_1_1:Int) (a0_1_2:Int) (a0_2:(List Int)) (a0_3:Int) (a0_4:Int) (a0_5:(List Int)) (a0_6:Int) (a0_7:Int) (a0_8:Int) (a0_9:Int) (a1:S42) (a2:(List Int)):Option (Int × (List Int) × Int × (List Int) × Int × Int × (List Int) × Int × Int × Int × (List Int)):=(trace_runner_call.fix 100000).2.1 a0_0 a0_1_0 a0_1_1 a0_1_2 a0_2 a0_3 a0_4 a0_5 a0_6 a0_7 a0_8 a0_9 a1 a2
theorem trace_runner_block.calls {G:Gd} {r:(Int × (List Int) × Int × (List Int) × Int × Int × (List Int) × Int × Int × Int × (List Int))} {a0_0:(List S45)} {a0_1_0:(List Int)} {a0_1_1:Int} {a0_1_2:Int} {a0_2:(List Int)} {a0_3:Int} {a0_4:Int} {a0_5:(List Int)} {a0_6:Int} {a0_7:Int} {a0_8:Int} {a0_9:Int} {a1:S42} {a2:(List Int)} {b1:Nat} {A2:Option Addr} {c3:Nat} {b6:Nat} {A7:Option Addr} {c8:Nat} {A10:Option Addr} {c11:Nat} {A14:Option Addr} {c15:Nat} {A17:Option Addr} {c18:Nat} {A21:Option Addr} {c22:Nat} {n24:Nat} (hr4:Rd G k45 A2 a0_0) (hl5:a0_0.length ≤ c3) (hr12:Rd G kI A10 a0_2) (hl13:a0_2.length ≤ c11) (hr19:Rd G k37 A17 a1.f0) (hl20:a1.f0.length ≤ c18) (h:trace_runner_block.f a0_0 a0_1_0 a0_1_1 a0_1_2 a0_2 a0_3 a0_4 a0_5 a0_6 a0_7 a0_8 a0_9 a1 a2=some r):Fn Try.prog 58 G [Blk b1 [.slice A2 a0_0.length c3,VP b6 0,.slice A10 a0_2.length c11,VI a0_3,VI a0_4,.slice A14 a0_5.length c15,VI a0_6,VI a0_7,VI a0_8,VI a0_9] 58,Blk b6 [.slice A7 a0_1_0.length c8,VI a0_1_1,VI a0_1_2] 89,Row kI 3 (.slice A7 a0_1_0.length c8) a0_1_0,Row kI 3 (.slice A14 a0_5.length c15) a0_5,Row kI 3 (.slice A21 n24 c22) a2] [VP b1 0,.agg #[.slice A17 a1.f0.length c18,VI a1.f1.f0,VI a1.f1.f1,VI a1.f1.f2,VI a1.f1.f3],.slice A21 n24 c22] (trace_runner_block.post G b1 A2 c3 b6 A7 c8 A10 c11 A14 c15 A17 c18 A21 c22 n24 a0_0 a0_1_0 a0_1_1 a0_1_2 a0_2 a0_3 a0_4 a0_5 a0_6 a0_7 a0_8 a0_9 a1 a2 r):=(trace_runner_call.fixc 100000).2.1 hr4 hl5 hr12 hl13 hr19 hl20 h
def trace_runner_value.f (a0_0:(List S45)) (a0_1_0:(List Int)) (a0_1_1:Int) (a0_1_2:Int) (a0_2:(List Int)) (a0_3:Int) (a0_4:Int) (a0_5:(List Int)) (a0_6:Int) (a0_7:Int) (a0_8:Int) (a0_9:Int) (a1:S37) (a2:(List Int)):Option (Int × Int × (List Int) × Int × (List Int) × Int × Int × (List Int) × Int × Int × Int):=(trace_runner_call.fix 100000).2.2 a0_0 a0_1_0 a0_1_1 a0_1_2 a0_2 a0_3 a0_4 a0_5 a0_6 a0_7 a0_8 a0_9 a1 a2
theorem trace_runner_value.calls {G:Gd} {r:(Int × Int × (List Int) × Int × (List Int) × Int × Int × (List Int) × Int × Int × Int)} {a0_0:(List S45)} {a0_1_0:(List Int)} {a0_1_1:Int} {a0_1_2:Int} {a0_2:(List Int)} {a0_3:Int} {a0_4:Int} {a0_5:(List Int)} {a0_6:Int} {a0_7:Int} {a0_8:Int} {a0_9:Int} {a1:S37} {a2:(List Int)} {b1:Nat} {A2:Option Addr} {c3:Nat} {b6:Nat} {A7:Option Addr} {c8:Nat} {A10:Option Addr} {c11:Nat} {A14:Option Addr} {c15:Nat} {A17:Option Addr} {c18:Nat} {A21:Option Addr} {c22:Nat} {n24:Nat} (hr4:Rd G k45 A2 a0_0) (hl5:a0_0.length ≤ c3) (hr12:Rd G kI A10 a0_2) (hl13:a0_2.length ≤ c11) (hr19:Rd G kI A17 a1.f5) (hl20:a1.f5.length ≤ c18) (h:trace_runner_value.f a0_0 a0_1_0 a0_1_1 a0_1_2 a0_2 a0_3 a0_4 a0_5 a0_6 a0_7 a0_8 a0_9 a1 a2=some r):Fn Try.prog 82 G [Blk b1 [.slice A2 a0_0.length c3,VP b6 0,.slice A10 a0_2.length c11,VI a0_3,VI a0_4,.slice A14 a0_5.length c15,VI a0_6,VI a0_7,VI a0_8,VI a0_9] 58,Blk b6 [.slice A7 a0_1_0.length c8,VI a0_1_1,VI a0_1_2] 89,Row kI 3 (.slice A7 a0_1_0.length c8) a0_1_0,Row kI 3 (.slice A14 a0_5.length c15) a0_5,Row kI 3 (.slice A21 n24 c22) a2] [VP b1 0,.agg #[VI a1.f0,VI a1.f1,VI a1.f2,VI a1.f3,VI a1.f4,.slice A17 a1.f5.length c18],.slice A21 n24 c22] (trace_runner_value.post G b1 A2 c3 b6 A7 c8 A10 c11 A14 c15 A17 c18 A21 c22 n24 a0_0 a0_1_0 a0_1_1 a0_1_2 a0_2 a0_3 a0_4 a0_5 a0_6 a0_7 a0_8 a0_9 a1 a2 r):=(trace_runner_call.fixc 100000).2.2.1 hr4 hl5 hr12 hl13 hr19 hl20 h
def trace_Run.f (a0:(List S45)) (a1:Int) (a2:(List Int)) (a3:Int):Option (S28 × Int):=jn (γ:=(S28 × Int)) (fun (x30:Bool)=>(if x30=true then some ((⟨([]:List Int),0,0,0,0⟩:S28),1) else (if 0 ≤ a1∧a1 ≤ 17592186044416 then (code_Program.f a0).bind fun (y42:Bool)=>(if (!y42)=true then some ((⟨([]:List Int),0,0,0,0⟩:S28),1) else (at? a0 0).bind fun y48=>(trace_runner_call.f a0 (List.replicate a1.toNat (0:Int)) 1 a1 a2 a3 0 ([]:List Int) 0 0 0 0 y48 ([]:List Int)).bind fun (y63:(Int × Int × (List Int) × Int × (List Int) × Int × Int × (List Int) × Int × Int × Int))=>some ((⟨y63.2.2.2.2.2.2.2.1,y63.2.1,y63.2.2.2.2.2.2.2.2.1,y63.2.2.2.2.2.2.2.2.2.1,y63.2.2.2.2.2.2.2.2.2.2⟩:S28),0)) else none))) (fun (j31:(Bool → Option (S28 × Int)))=>(if a1 < 1 then j31 true else j31 (decide (1048576 < a1))))
def trace_Run.post (G:Gd)  (r:(S28 × Int)) (v:Value) (G':Gd) (Lr:List Ch):Prop:=G=G'∧∃ (A_1:Option Addr) (c_1:Nat),v=.tuple #[.agg #[.slice A_1 r.1.f0.length c_1,VI r.1.f1,VI r.1.f2,VI r.1.f3,VI r.1.f4],VI r.2]∧Lr=[Row kI 3 (.slice A_1 r.1.f0.length c_1) r.1.f0]
theorem trace_Run.calls {G:Gd} {r:(S28 × Int)} {a0:(List S45)} {a1:Int} {a2:(List Int)} {a3:Int} {A1:Option Addr} {c2:Nat} {A5:Option Addr} {c6:Nat} (hr3:Rd G k45 A1 a0) (hl4:a0.length ≤ c2) (hr7:Rd G kI A5 a2) (hl8:a2.length ≤ c6) (h:trace_Run.f a0 a1 a2 a3=some r):Fn Try.prog 11 G [] [.slice A1 a0.length c2,VI a1,.slice A5 a2.length c6,VI a3] (trace_Run.post G  r):=by
 refine Fn.intro (e:=[(0,.slice A1 a0.length c2),(1,VI a1),(2,.slice A5 a2.length c6),(3,VI a3)]) 48 Try.func11 rfl Try.ntmps11 rfl rfl (Nat.le_of_ble_eq_true rfl) (fun L=>?_)
 unfold trace_Run.f at h
 refine TC.seq ?_
 refine TC.region ?_
 refine TL.cons (TL.alloc (cs:=[.slice none 0 0,VI 0,VI 0,VI 0,VI 0]) rfl rfl zr28 rfl (fun b9=>?_))
 refine TV rfl rfl rfl (Val.assign rfl) ?_
 refine TL.nil ?_
 refine TQ.then_ ?_
 refine TC.seq ?_
 refine TC.region ?_
 refine TV rfl rfl rfl (Val.move rfl) ?_
 refine TL.cons (TO.inl (args:=[VI a1]) (e':=[(0,VI a1)]) 15 rfl rfl hbd26 rfl rfl Try.func26 rfl Try.ntmps26 rfl rfl (Nat.le_of_ble_eq_true rfl) (fun a10 hf11=>?_))
 refine TC.seq ?_
 refine TC.region ?_
 refine TV rfl rfl rfl (Val.assign rfl) ?_
 refine TV rfl rfl rfl (Val.assign rfl) ?_
 refine TL.nil ?_
 refine TQ.then_ ?_
 refine TC.seq ?_
 refine TC.seq ?_
 obtain ⟨j31,hj31,h⟩:=jn_no h
 refine TC.tail (fun a W=>∃ (x30:Bool),j31 x30=some r∧Fr 15 a [(0,VI a1),(9,.bool x30)]∧Own G (Blk b9 [.slice none 0 0,VI 0,VI 0,VI 0,VI 0] 28::L) W) ?_ ?_
 ·
  rintro a W ⟨x30,h,hF,hO⟩
  rw [hj31] at h
  refine TQ.use ?_ hF hO
  clear hF hO
  refine TQ.then_ ?_
  refine TC.cond_b rfl h (fun hc33 h=>?_) (fun hc33 h=>?_)
  ·
   refine TC.seq ?_
   refine TC.region ?_
   refine TV rfl rfl rfl (Val.assign rfl) ?_
   refine TV rfl rfl rfl (Val.assign rfl) ?_
   refine TL.nil ?_
   refine TQ.then_ ?_
   refine TC.ret ?_
   refine TQ.thenR ?_
   refine TQ.fin (v:=.tuple #[.pointer none,VI 1]) (.inl rfl) rfl Try.results26 (.tmp rfl (.tmp rfl .nil)) rfl (After.mk hf11 rfl ?_)
   refine TV rfl rfl rfl (Val.move rfl) ?_
   refine TV rfl rfl rfl (Val.extract rfl rfl) ?_
   refine TV rfl rfl rfl (Val.extract rfl rfl) ?_
   refine TV rfl rfl rfl (Val.assign rfl) ?_
   refine TV rfl rfl rfl (Val.assign rfl) ?_
   refine TL.nil ?_
   refine TQ.then_ ?_
   refine TC.seq ?_
   refine TC.seq ?_
   refine TC.region ?_
   refine TV rfl rfl rfl (Val.move rfl) ?_
   refine TV rfl rfl rfl (Val.cmp rfl rfl run_neq) ?_
   refine TV rfl rfl rfl (Val.move rfl) ?_
   refine TL.cons (TL.not (Wt.no rfl rfl rfl rfl) rfl ?_)
   refine TL.cons (TL.not (Wt.no rfl rfl rfl rfl) rfl ?_)
   refine TL.cons (TL.not (Wt.no rfl rfl rfl rfl) rfl ?_)
   refine TV rfl rfl rfl (Val.pickY rfl rfl rfl) ?_
   refine TL.nil ?_
   refine TQ.then_ ?_
   refine TC.condT rfl ?_
   refine TC.seq ?_
   refine TC.region ?_
   refine TV rfl rfl rfl (Val.build (cs:=[.slice none 0 0,VI 0,VI 0,VI 0,VI 0]) (is:=[]) (xs:=[]) Try.underlying28 zr28 bld28 rfl rfl rfl rfl) ?_
   refine TL.cons (TL.store 0 (ds:=[.slice none 0 0,VI 0,VI 0,VI 0,VI 0]) (cs':=[.slice none 0 0,VI 0,VI 0,VI 0,VI 0]) (L':=(Blk b9 [.slice none 0 0,VI 0,VI 0,VI 0,VI 0] 28::L)) rfl fsz28 rfl rfl rfl rfl rfl (Nat.le_of_ble_eq_true rfl) rfl rfl ?_)
   refine TV rfl rfl rfl (Val.assign rfl) ?_
   refine TL.nil ?_
   refine TQ.then_ ?_
   refine TC.ret ?_
   refine TQ.thenR ?_
   refine TQ.nilRow kI 3 ?_
   obtain rfl:=Option.some.inj h
   exact TQ.fin (.inl rfl) rfl Try.results11 (.cells 1 rfl rfl agg28 fsz28 (.tmp rfl .nil)) rfl (FRel.mk (Ls:=[Row kI 3 (.slice none 0 0) ([]:List Int)]) [0] 2 (Gd.le.refl _) rfl rfl rfl ⟨rfl,none,0,rfl,rfl⟩)
  ·
   refine TC.skip ?_
   refine TQ.then_ ?_
   refine TC.seq ?_
   refine TC.region ?_
   refine TV rfl rfl rfl (Val.move rfl) ?_
   obtain ⟨ha35,h⟩:=ite_no h
   refine TL.cons (TL.make kI rfl rfl Try.underlying23 inf3 rfl (Nat.le_of_ble_eq_true rfl) (Nat.le_of_ble_eq_true rfl) rfl rfl (fun W B=>rfl) ha35.1 (by have h_:=ha35.2; omega) (fun A36 c37=>?_))
   refine TV rfl rfl rfl (Val.move rfl) ?_
   refine TV rfl rfl rfl (Val.build (cs:=[.slice A36 (List.replicate a1.toNat (0:Int)).length c37,VI 1,VI a1]) (is:=[0,1,2]) (xs:=[.tmp 11,.const (VI 1),.tmp 12]) Try.underlying89 zr89 bld89 rfl rfl rfl rfl) ?_
   refine TL.cons (TL.box (cs:=[.slice A36 (List.replicate a1.toNat (0:Int)).length c37,VI 1,VI a1]) rfl rfl rfl rfl (fun b39=>?_))
   refine TV rfl rfl rfl (Val.assign rfl) ?_
   refine TV rfl rfl rfl (Val.assign rfl) ?_
   refine TL.nil ?_
   refine TQ.then_ ?_
   refine TC.ret ?_
   refine TQ.fin (v:=.tuple #[VP b39 0,VI 0]) (.inl rfl) rfl Try.results26 (.tmp rfl (.tmp rfl .nil)) rfl (After.mk hf11 rfl ?_)
   refine TV rfl rfl rfl (Val.move rfl) ?_
   refine TV rfl rfl rfl (Val.extract rfl rfl) ?_
   refine TV rfl rfl rfl (Val.extract rfl rfl) ?_
   refine TV rfl rfl rfl (Val.assign rfl) ?_
   refine TV rfl rfl rfl (Val.assign rfl) ?_
   refine TL.nil ?_
   refine TQ.then_ ?_
   refine TC.seq ?_
   refine TC.seq ?_
   refine TC.region ?_
   refine TV rfl rfl rfl (Val.move rfl) ?_
   refine TV rfl rfl rfl (Val.cmp rfl rfl run_neq) ?_
   refine TV rfl rfl rfl (Val.move rfl) ?_
   refine TV (Wt.yes rfl rfl rfl rfl) rfl rfl (Val.move rfl) ?_
   obtain ⟨y42,hy43,h⟩:=bind_no h
   refine TL.cons (TL.callV (Lin:=[]) (args:=[.slice A1 a0.length c2]) (Wt.yes rfl rfl rfl rfl) rfl rfl hbd27 rfl rfl (code_Program.calls (a0:=a0) hr3 hl4 hy43) rfl ?_)
   rintro _ _ _ _ ⟨rfl,rfl,rfl⟩
   refine TV (Wt.yes rfl rfl rfl rfl) rfl rfl (Val.not_ rfl) ?_
   refine TV rfl rfl rfl (Val.pickN rfl rfl rfl) ?_
   refine TL.nil ?_
   refine TQ.then_ ?_
   refine TC.cond_b rfl h (fun hc45 h=>?_) (fun hc45 h=>?_)
   ·
    refine TC.seq ?_
    refine TC.region ?_
    refine TV rfl rfl rfl (Val.build (cs:=[.slice none 0 0,VI 0,VI 0,VI 0,VI 0]) (is:=[]) (xs:=[]) Try.underlying28 zr28 bld28 rfl rfl rfl rfl) ?_
    refine TL.cons (TL.store 2 (ds:=[.slice none 0 0,VI 0,VI 0,VI 0,VI 0]) (cs':=[.slice none 0 0,VI 0,VI 0,VI 0,VI 0]) (L':=(Blk b39 [.slice A36 (List.replicate a1.toNat (0:Int)).length c37,VI 1,VI a1] 89::Row kI 3 (.slice A36 (List.replicate a1.toNat (0:Int)).length c37) (List.replicate a1.toNat (0:Int))::Blk b9 [.slice none 0 0,VI 0,VI 0,VI 0,VI 0] 28::L)) rfl fsz28 rfl rfl rfl rfl rfl (Nat.le_of_ble_eq_true rfl) rfl rfl ?_)
    refine TV rfl rfl rfl (Val.assign rfl) ?_
    refine TL.nil ?_
    refine TQ.then_ ?_
    refine TC.ret ?_
    refine TQ.thenR ?_
    refine TQ.nilRow kI 3 ?_
    obtain rfl:=Option.some.inj h
    exact TQ.fin (.inl rfl) rfl Try.results11 (.cells 3 rfl rfl agg28 fsz28 (.tmp rfl .nil)) rfl (FRel.mk (Ls:=[Row kI 3 (.slice none 0 0) ([]:List Int)]) [0] 4 (Gd.le.refl _) rfl rfl rfl ⟨rfl,none,0,rfl,rfl⟩)
   ·
    refine TC.skip ?_
    refine TQ.then_ ?_
    refine TC.seq ?_
    refine TC.region ?_
    refine TV rfl rfl rfl (Val.move rfl) ?_
    refine TV rfl rfl rfl (Val.move rfl) ?_
    refine TV rfl rfl rfl (Val.move rfl) ?_
    refine TV rfl rfl rfl (Val.move rfl) ?_
    refine TV rfl rfl rfl (Val.build (cs:=[.slice A1 a0.length c2,VP b39 0,.slice A5 a2.length c6,VI a3,VI 0,.slice none 0 0,VI 0,VI 0,VI 0,VI 0]) (is:=[0,1,2,3]) (xs:=[.tmp 26,.tmp 27,.tmp 28,.tmp 29]) Try.underlying58 zr58 bld58 rfl rfl rfl rfl) ?_
    refine TL.cons (TL.box (cs:=[.slice A1 a0.length c2,VP b39 0,.slice A5 a2.length c6,VI a3,VI 0,.slice none 0 0,VI 0,VI 0,VI 0,VI 0]) rfl rfl rfl rfl (fun b47=>?_))
    refine TV rfl rfl rfl (Val.assign rfl) ?_
    refine TL.nil ?_
    refine TQ.then_ ?_
    refine TC.seq ?_
    refine TC.region ?_
    refine TV rfl rfl rfl (Val.move rfl) ?_
    refine TV rfl rfl rfl (Val.move rfl) ?_
    refine TV rfl rfl rfl (Val.move rfl) ?_
    obtain ⟨y48,hx49,h⟩:=bind_no h
    obtain ⟨ad50,cs56,hA51,hi52,hj53,hcl54,hK55⟩:=Rd.at hr3 hx49
    obtain ⟨A57,c58,rfl,hr59,hl60⟩:=k45_openR hK55
    refine TV rfl rfl rfl (Val.indexAddr Try.underlying22 fsz45 rfl hA51 rfl hi52 hj53) ?_
    refine TV rfl rfl rfl (Val.loadsS (cs:=[VI y48.f0,.slice A57 y48.f1.length c58]) agg45 fsz45 rfl rfl (Cl.sub (off:=0) (n:=2) hcl54 rfl)) ?_
    refine TK.new (Row.nil kI 3) ?_
    refine TK.new (Row.nil kI 3) ?_
    refine TK.sel (Ls:=[Blk b47 [.slice A1 a0.length c2,VP b39 0,.slice A5 a2.length c6,VI a3,VI 0,.slice none 0 0,VI 0,VI 0,VI 0,VI 0] 58,Blk b39 [.slice A36 (List.replicate a1.toNat (0:Int)).length c37,VI 1,VI a1] 89,Row kI 3 (.slice A36 (List.replicate a1.toNat (0:Int)).length c37) (List.replicate a1.toNat (0:Int)),Row kI 3 (.slice none 0 0) ([]:List Int),Row kI 3 (.slice none 0 0) ([]:List Int),Blk b9 [.slice none 0 0,VI 0,VI 0,VI 0,VI 0] 28]) [2,3,4,1,0,5] 6 rfl rfl rfl ?_
    obtain ⟨y63,hy64,h⟩:=bind_no h
    refine TL.cons (TL.callV (Lin:=[Blk b47 [.slice A1 a0.length c2,VP b39 0,.slice A5 a2.length c6,VI a3,VI 0,.slice none 0 0,VI 0,VI 0,VI 0,VI 0] 58,Blk b39 [.slice A36 (List.replicate a1.toNat (0:Int)).length c37,VI 1,VI a1] 89,Row kI 3 (.slice A36 (List.replicate a1.toNat (0:Int)).length c37) (List.replicate a1.toNat (0:Int)),Row kI 3 (.slice none 0 0) ([]:List Int),Row kI 3 (.slice none 0 0) ([]:List Int)]) (args:=[VP b47 0,.agg #[VI y48.f0,.slice A57 y48.f1.length c58],.slice none 0 0]) rfl rfl rfl hbd28 rfl rfl (trace_runner_call.calls (a0_0:=a0) (a0_1_0:=(List.replicate a1.toNat (0:Int))) (a0_1_1:=1) (a0_1_2:=a1) (a0_2:=a2) (a0_3:=a3) (a0_4:=0) (a0_5:=([]:List Int)) (a0_6:=0) (a0_7:=0) (a0_8:=0) (a0_9:=0) (a1:=y48) (a2:=([]:List Int)) hr3 hl4 hr7 hl8 hr59 hl60 hy64) rfl ?_)
    rintro _ _ _ _ ⟨rfl,A65,c66,A68,c69,A72,c73,rfl,rfl,hr70,hl71⟩
    refine TV rfl rfl rfl (Val.move rfl) ?_
    refine TV rfl rfl rfl (Val.extract rfl rfl) ?_
    refine TV rfl rfl rfl (Val.extract rfl rfl) ?_
    refine TV rfl rfl rfl (Val.nilCheck rfl) ?_
    refine TV rfl rfl rfl (Val.fieldAddrB Try.underlying58 rfl fsz28 rfl rfl rfl) ?_
    refine TV rfl rfl rfl (Val.fieldAddrB Try.underlying28 rfl fsz26 rfl rfl rfl) ?_
    refine TL.cons (TL.store 0 (ds:=[VI y63.2.1]) (cs':=[.slice A1 a0.length c2,VP b39 0,.slice A68 y63.2.2.2.2.1.length c69,VI y63.2.2.2.2.2.1,VI y63.2.2.2.2.2.2.1,.slice A72 y63.2.2.2.2.2.2.2.1.length c73,VI y63.2.1,VI y63.2.2.2.2.2.2.2.2.1,VI y63.2.2.2.2.2.2.2.2.2.1,VI y63.2.2.2.2.2.2.2.2.2.2]) (L':=(Blk b47 [.slice A1 a0.length c2,VP b39 0,.slice A68 y63.2.2.2.2.1.length c69,VI y63.2.2.2.2.2.1,VI y63.2.2.2.2.2.2.1,.slice A72 y63.2.2.2.2.2.2.2.1.length c73,VI y63.2.1,VI y63.2.2.2.2.2.2.2.2.1,VI y63.2.2.2.2.2.2.2.2.2.1,VI y63.2.2.2.2.2.2.2.2.2.2] 58::Blk b39 [.slice A65 y63.2.2.1.length c66,VI y63.2.2.2.1,VI a1] 89::Row kI 3 (.slice A65 y63.2.2.1.length c66) y63.2.2.1::Row kI 3 (.slice A72 y63.2.2.2.2.2.2.2.1.length c73) y63.2.2.2.2.2.2.2.1::Row kI 3 (.slice none 0 0) ([]:List Int)::Blk b9 [.slice none 0 0,VI 0,VI 0,VI 0,VI 0] 28::L)) rfl fsz26 rfl rfl rfl rfl rfl (Nat.le_of_ble_eq_true rfl) rfl rfl ?_)
    refine TL.nil ?_
    refine TQ.then_ ?_
    refine TC.seq ?_
    refine TC.region ?_
    refine TV rfl rfl rfl (Val.move rfl) ?_
    refine TV rfl rfl rfl (Val.nilCheck rfl) ?_
    refine TV rfl rfl rfl (Val.fieldAddrB Try.underlying58 rfl fsz28 rfl rfl rfl) ?_
    refine TV rfl rfl rfl (Val.loadsB 0 (cs:=[.slice A72 y63.2.2.2.2.2.2.2.1.length c73,VI y63.2.1,VI y63.2.2.2.2.2.2.2.2.1,VI y63.2.2.2.2.2.2.2.2.2.1,VI y63.2.2.2.2.2.2.2.2.2.2]) agg28 fsz28 rfl rfl rfl rfl) ?_
    refine TL.cons (TL.store 5 (ds:=[.slice A72 y63.2.2.2.2.2.2.2.1.length c73,VI y63.2.1,VI y63.2.2.2.2.2.2.2.2.1,VI y63.2.2.2.2.2.2.2.2.2.1,VI y63.2.2.2.2.2.2.2.2.2.2]) (cs':=[.slice A72 y63.2.2.2.2.2.2.2.1.length c73,VI y63.2.1,VI y63.2.2.2.2.2.2.2.2.1,VI y63.2.2.2.2.2.2.2.2.2.1,VI y63.2.2.2.2.2.2.2.2.2.2]) (L':=(Blk b47 [.slice A1 a0.length c2,VP b39 0,.slice A68 y63.2.2.2.2.1.length c69,VI y63.2.2.2.2.2.1,VI y63.2.2.2.2.2.2.1,.slice A72 y63.2.2.2.2.2.2.2.1.length c73,VI y63.2.1,VI y63.2.2.2.2.2.2.2.2.1,VI y63.2.2.2.2.2.2.2.2.2.1,VI y63.2.2.2.2.2.2.2.2.2.2] 58::Blk b39 [.slice A65 y63.2.2.1.length c66,VI y63.2.2.2.1,VI a1] 89::Row kI 3 (.slice A65 y63.2.2.1.length c66) y63.2.2.1::Row kI 3 (.slice A72 y63.2.2.2.2.2.2.2.1.length c73) y63.2.2.2.2.2.2.2.1::Row kI 3 (.slice none 0 0) ([]:List Int)::Blk b9 [.slice A72 y63.2.2.2.2.2.2.2.1.length c73,VI y63.2.1,VI y63.2.2.2.2.2.2.2.2.1,VI y63.2.2.2.2.2.2.2.2.2.1,VI y63.2.2.2.2.2.2.2.2.2.2] 28::L)) rfl fsz28 rfl rfl rfl rfl rfl (Nat.le_of_ble_eq_true rfl) rfl rfl ?_)
    refine TV rfl rfl rfl (Val.assign rfl) ?_
    refine TL.nil ?_
    refine TQ.then_ ?_
    refine TC.ret ?_
    obtain rfl:=Option.some.inj h
    exact TQ.fin (.inl rfl) rfl Try.results11 (.cells 5 rfl rfl agg28 fsz28 (.tmp rfl .nil)) rfl (FRel.mk (Ls:=[Row kI 3 (.slice A72 y63.2.2.2.2.2.2.2.1.length c73) y63.2.2.2.2.2.2.2.1]) [3] 6 (Gd.le.refl _) rfl rfl rfl ⟨rfl,A72,c73,rfl,rfl⟩)
 ·
  refine TC.region ?_
  refine TV rfl rfl rfl (Val.move rfl) ?_
  refine TV rfl rfl rfl (Val.cmp rfl rfl run_lss) ?_
  refine TV rfl rfl rfl (Val.move rfl) ?_
  refine TK.split (p:=a1 < 1) h (fun hg75 h=>?_) (fun hg75 h=>?_)
  ·
   have hk76:decide (a1 < 1)=true:=decide_eq_true hg75
   refine TL.cons (TL.not (Wt.no rfl rfl rfl hk76) rfl ?_)
   refine TL.cons (TL.not (Wt.no rfl rfl rfl hk76) rfl ?_)
   refine TV rfl rfl rfl (Val.pickY rfl hk76 rfl) ?_
   refine TL.nil ?_
   exact fun a W hF hO=>⟨true,h,hF.sub ⟨rfl,rfl,trivial⟩,hO.selT (Ls:=[Blk b9 [.slice none 0 0,VI 0,VI 0,VI 0,VI 0] 28]) [0] 1 rfl rfl rfl⟩
  ·
   have hk77:decide (a1 < 1)=false:=decide_eq_false hg75
   refine TV (Wt.yes rfl rfl rfl hk77) rfl rfl (Val.move rfl) ?_
   refine TV (Wt.yes rfl rfl rfl hk77) rfl rfl (Val.cmp rfl rfl run_gtr) ?_
   refine TV rfl rfl rfl (Val.pickN rfl hk77 rfl) ?_
   refine TL.nil ?_
   exact fun a W hF hO=>⟨decide (1048576 < a1),h,hF.sub ⟨rfl,rfl,trivial⟩,hO.selT (Ls:=[Blk b9 [.slice none 0 0,VI 0,VI 0,VI 0,VI 0] 28]) [0] 1 rfl rfl rfl⟩
def swageref02_Ints.l0 (a0:(List Int)) (a1:(List Int)):Nat → Int → Option (Sum Bool (Unit))
 | 0,_=>none
 | n248 + 1,x168=>(if x168 < (a0.length:Int) then (at? a0 x168).bind fun y385=>(at? a1 x168).bind fun y394=>(if (!decide (y385=y394))=true then some (.inl false) else swageref02_Ints.l0 a0 a1 n248 (IntKind.i64.wrap (x168 + 1))) else some (.inr ()))
def swageref02_Ints.f (a0:(List Int)) (a1:(List Int)):Option Bool:=(if (!decide ((a0.length:Int)=(a1.length:Int)))=true then some false else (swageref02_Ints.l0 a0 a1 (a0.length + 1) 0).bind fun | .inl q_=>some q_ | .inr _=>(some true))
def swageref02_Ints.post (G:Gd)  (r:Bool) (v:Value) (G':Gd) (Lr:List Ch):Prop:=G=G'∧v=.bool r∧Lr=[]
theorem swageref02_Ints.calls {G:Gd} {r:Bool} {a0:(List Int)} {a1:(List Int)} {A1:Option Addr} {c2:Nat} {A5:Option Addr} {c6:Nat} (hr3:Rd G kI A1 a0) (hl4:a0.length ≤ c2) (hr7:Rd G kI A5 a1) (hl8:a1.length ≤ c6) (h:swageref02_Ints.f a0 a1=some r):Fn Try.prog 14 G [] [.slice A1 a0.length c2,.slice A5 a1.length c6] (swageref02_Ints.post G  r):=by
 refine Fn.intro (e:=[(0,.slice A1 a0.length c2),(1,.slice A5 a1.length c6)]) 26 Try.func14 rfl Try.ntmps14 rfl rfl (Nat.le_of_ble_eq_true rfl) (fun L=>?_)
 unfold swageref02_Ints.f at h
 refine TC.seq ?_
 refine TC.region ?_
 refine TV rfl rfl rfl (Val.assign rfl) ?_
 refine TL.nil ?_
 refine TQ.then_ ?_
 refine TC.seq ?_
 refine TC.seq ?_
 refine TC.region ?_
 refine TV rfl rfl rfl (Val.move rfl) ?_
 refine TV rfl rfl rfl (Val.len Try.underlying23 rfl) ?_
 refine TV rfl rfl rfl (Val.move rfl) ?_
 refine TV rfl rfl rfl (Val.len Try.underlying23 rfl) ?_
 refine TV rfl rfl rfl (Val.cmp rfl rfl run_neq) ?_
 refine TL.nil ?_
 refine TQ.then_ ?_
 refine TC.cond_b rfl h (fun hc10 h=>?_) (fun hc10 h=>?_)
 ·
  refine TC.seq ?_
  refine TC.region ?_
  refine TV rfl rfl rfl (Val.assign rfl) ?_
  refine TL.nil ?_
  refine TQ.then_ ?_
  refine TC.ret ?_
  refine TQ.thenR ?_
  obtain rfl:=Option.some.inj h
  exact TQ.fin (.inl rfl) rfl Try.results14 (.tmp rfl .nil) rfl (FRel.mk (Ls:=[]) [] 0 (Gd.le.refl _) rfl rfl rfl ⟨rfl,rfl,rfl⟩)
 ·
  refine TC.skip ?_
  refine TQ.then_ ?_
  refine TC.seq ?_
  refine TC.seq ?_
  refine TC.region ?_
  refine TV rfl rfl rfl (Val.assign rfl) ?_
  refine TL.nil ?_
  refine TQ.then_ ?_
  obtain ⟨o247,ho247,ko247⟩:=bind_no h
  clear h
  refine TC.tail (fun a W=>(.inr ())=o247∧Fr 26 a []∧Own G (L) W) ?_ ?_
  ·
   rintro a W ⟨rfl,hF,hO⟩
   have h:=ko247
   clear ko247 ho247
   refine TQ.use ?_ hF hO
   clear hF hO
   refine TQ.then_ ?_
   refine TC.seq ?_
   refine TC.region ?_
   refine TV rfl rfl rfl (Val.assign rfl) ?_
   refine TL.nil ?_
   refine TQ.then_ ?_
   refine TC.ret ?_
   obtain rfl:=Option.some.inj h
   exact TQ.fin (.inl rfl) rfl Try.results14 (.tmp rfl .nil) rfl (FRel.mk (Ls:=[]) [] 0 (Gd.le.refl _) rfl rfl rfl ⟨rfl,rfl,rfl⟩)
  ·
   refine TC.block ?_
   intro a W hF hO
   have hS:∃ (x168:Int),swageref02_Ints.l0 a0 a1 (a0.length + 1) x168=some o247∧Fr 26 a [(0,.slice A1 a0.length c2),(1,.slice A5 a1.length c6),(5,VI x168)]∧Own G (L) W:=by
    exact ⟨0,ho247,hF.sub ⟨rfl,rfl,rfl,trivial⟩,hO.selT (Ls:=[]) [] 0 rfl rfl rfl⟩
   clear hF hO ho247
   refine TC.loop (fun n248 a W=>∃ (x168:Int),swageref02_Ints.l0 a0 a1 n248 x168=some o247∧Fr 26 a [(0,.slice A1 a0.length c2),(1,.slice A5 a1.length c6),(5,VI x168)]∧Own G (L) W) ?_ ?_ hS
   ·
    rintro a W ⟨x168,h,hF,hO⟩
    exact none_no h
   ·
    clear hS
    rintro n248 a W ⟨x168,h,hF,hO⟩
    rw [swageref02_Ints.l0] at h
    refine TC.use ?_ hF hO
    clear hF hO
    refine TC.seq ?_
    refine TC.seq ?_
    refine TC.region ?_
    refine TV rfl rfl rfl (Val.move rfl) ?_
    refine TV rfl rfl rfl (Val.move rfl) ?_
    refine TV rfl rfl rfl (Val.len Try.underlying23 rfl) ?_
    refine TV rfl rfl rfl (Val.cmp rfl rfl run_lss) ?_
    refine TL.nil ?_
    refine TQ.then_ ?_
    refine TC.cond_p rfl h (fun hc328 h=>?_) (fun hc328 h=>?_)
    ·
     refine TC.skip ?_
     refine TQ.then_ ?_
     refine TC.seq ?_
     refine TC.block ?_
     refine TC.seq ?_
     refine TC.regionAny [] [0,1,2,3,4,5,6,7,8] mixed (by kernel_rfl) ?_
     refine TA.take 0 rfl (by kernel_rfl) rfl (PQ.then_ (PQ.inB (PQ.then_ (PQ.then_ (PQ.inB (PQ.then_ (PQ.then_ PQ.body))))))) rfl (Val.move rfl) (fun W hO=>hO) ?_
     refine TA.take 1 rfl (by kernel_rfl) rfl (PQ.then_ (PQ.inB (PQ.then_ (PQ.then_ (PQ.inB (PQ.then_ (PQ.then_ PQ.body))))))) rfl (Val.move rfl) (fun W hO=>hO) ?_
     obtain ⟨y385,hx386,h⟩:=bind_no h
     obtain ⟨ad387,cs393,hA388,hi389,hj390,hcl391,hK392⟩:=Rd.at hr3 hx386
     obtain rfl:=RdK.int hK392
     refine TA.take 2 rfl (by kernel_rfl) rfl (PQ.then_ (PQ.inB (PQ.then_ (PQ.then_ (PQ.inB (PQ.then_ (PQ.then_ PQ.body))))))) rfl (Val.indexAddr Try.underlying23 fsz3 rfl hA388 rfl hi389 hj390) (fun W hO=>hO) ?_
     refine TA.take 3 rfl (by kernel_rfl) rfl (PQ.then_ (PQ.inB (PQ.then_ (PQ.then_ (PQ.inB (PQ.then_ (PQ.then_ PQ.body))))))) rfl (Val.loadS agg3 rfl (hcl391 0 _ rfl)) (fun W hO=>hO) ?_
     refine TA.take 4 rfl (by kernel_rfl) rfl (PQ.then_ (PQ.inB (PQ.then_ (PQ.then_ (PQ.inB (PQ.then_ (PQ.then_ PQ.body))))))) rfl (Val.move rfl) (fun W hO=>hO) ?_
     refine TA.take 5 rfl (by kernel_rfl) rfl (PQ.then_ (PQ.inB (PQ.then_ (PQ.then_ (PQ.inB (PQ.then_ (PQ.then_ PQ.body))))))) rfl (Val.move rfl) (fun W hO=>hO) ?_
     obtain ⟨y394,hx395,h⟩:=bind_no h
     obtain ⟨ad396,cs402,hA397,hi398,hj399,hcl400,hK401⟩:=Rd.at hr7 hx395
     obtain rfl:=RdK.int hK401
     refine TA.take 6 rfl (by kernel_rfl) rfl (PQ.then_ (PQ.inB (PQ.then_ (PQ.then_ (PQ.inB (PQ.then_ (PQ.then_ PQ.body))))))) rfl (Val.indexAddr Try.underlying23 fsz3 rfl hA397 rfl hi398 hj399) (fun W hO=>hO) ?_
     refine TA.take 7 rfl (by kernel_rfl) rfl (PQ.then_ (PQ.inB (PQ.then_ (PQ.then_ (PQ.inB (PQ.then_ (PQ.then_ PQ.body))))))) rfl (Val.loadS agg3 rfl (hcl400 0 _ rfl)) (fun W hO=>hO) ?_
     refine TA.take 8 rfl (by kernel_rfl) rfl (PQ.then_ (PQ.inB (PQ.then_ (PQ.then_ (PQ.inB (PQ.then_ (PQ.then_ PQ.body))))))) rfl (Val.cmp rfl rfl run_neq) (fun W hO=>hO) ?_
     refine TA.done (by kernel_rfl) ?_
     refine TQ.then_ ?_
     refine TC.cond_b rfl h (fun hc404 h=>?_) (fun hc404 h=>?_)
     ·
      refine TC.seq ?_
      refine TC.region ?_
      refine TV rfl rfl rfl (Val.assign rfl) ?_
      refine TL.nil ?_
      refine TQ.then_ ?_
      refine TC.ret ?_
      refine TQ.inBR ?_
      refine TQ.thenR ?_
      refine TQ.thenR ?_
      refine TQ.inBR ?_
      refine TQ.thenR ?_
      refine TQ.thenR ?_
      obtain rfl:=Option.some.inj h
      have h:=ko247
      obtain rfl:=Option.some.inj h
      exact TQ.fin (.inl rfl) rfl Try.results14 (.tmp rfl .nil) rfl (FRel.mk (Ls:=[]) [] 0 (Gd.le.refl _) rfl rfl rfl ⟨rfl,rfl,rfl⟩)
     ·
      refine TC.skip ?_
      refine TQ.inB ?_
      refine TQ.then_ ?_
      refine TC.region ?_
      refine TV rfl rfl rfl (Val.move rfl) ?_
      refine TV rfl rfl rfl (Val.cmp rfl rfl run_add) ?_
      refine TV rfl rfl rfl (Val.assign rfl) ?_
      refine TL.nil ?_
      exact fun a W hF hO=>⟨IntKind.i64.wrap (x168 + 1),h,hF.sub ⟨rfl,rfl,rfl,trivial⟩,hO.selT (Ls:=[]) [] 0 rfl rfl rfl⟩
    ·
     refine TC.exit ?_
     refine TQ.thenX ?_
     refine TQ.thenX ?_
     refine TQ.inBX ?_
     exact fun a W hF hO=>⟨Option.some.inj h,hF.sub trivial,hO.selT (Ls:=[]) [] 0 rfl rfl rfl⟩
def slices_Equal_int_int.l0 (a0:(List Int)) (a1:(List Int)):Nat → Int → Option (Sum Bool (Unit))
 | 0,_=>none
 | n248 + 1,x168=>(if x168 < (a0.length:Int) then (at? a0 x168).bind fun y385=>(at? a1 x168).bind fun y394=>(if (!decide (y385=y394))=true then some (.inl false) else slices_Equal_int_int.l0 a0 a1 n248 (IntKind.i64.wrap (x168 + 1))) else some (.inr ()))
def slices_Equal_int_int.f (a0:(List Int)) (a1:(List Int)):Option Bool:=(if (!decide ((a0.length:Int)=(a1.length:Int)))=true then some false else (slices_Equal_int_int.l0 a0 a1 (a0.length + 1) 0).bind fun | .inl q_=>some q_ | .inr _=>(some true))
def slices_Equal_int_int.post (G:Gd)  (r:Bool) (v:Value) (G':Gd) (Lr:List Ch):Prop:=G=G'∧v=.bool r∧Lr=[]
theorem slices_Equal_int_int.calls {G:Gd} {r:Bool} {a0:(List Int)} {a1:(List Int)} {A1:Option Addr} {c2:Nat} {A5:Option Addr} {c6:Nat} (hr3:Rd G kI A1 a0) (hl4:a0.length ≤ c2) (hr7:Rd G kI A5 a1) (hl8:a1.length ≤ c6) (h:slices_Equal_int_int.f a0 a1=some r):Fn Try.prog 35 G [] [.slice A1 a0.length c2,.slice A5 a1.length c6] (slices_Equal_int_int.post G  r):=by
 refine Fn.intro (e:=[(0,.slice A1 a0.length c2),(1,.slice A5 a1.length c6)]) 26 Try.func35 rfl Try.ntmps35 rfl rfl (Nat.le_of_ble_eq_true rfl) (fun L=>?_)
 unfold slices_Equal_int_int.f at h
 refine TC.seq ?_
 refine TC.region ?_
 refine TV rfl rfl rfl (Val.assign rfl) ?_
 refine TL.nil ?_
 refine TQ.then_ ?_
 refine TC.seq ?_
 refine TC.seq ?_
 refine TC.region ?_
 refine TV rfl rfl rfl (Val.move rfl) ?_
 refine TV rfl rfl rfl (Val.len Try.underlying23 rfl) ?_
 refine TV rfl rfl rfl (Val.move rfl) ?_
 refine TV rfl rfl rfl (Val.len Try.underlying23 rfl) ?_
 refine TV rfl rfl rfl (Val.cmp rfl rfl run_neq) ?_
 refine TL.nil ?_
 refine TQ.then_ ?_
 refine TC.cond_b rfl h (fun hc10 h=>?_) (fun hc10 h=>?_)
 ·
  refine TC.seq ?_
  refine TC.region ?_
  refine TV rfl rfl rfl (Val.assign rfl) ?_
  refine TL.nil ?_
  refine TQ.then_ ?_
  refine TC.ret ?_
  refine TQ.thenR ?_
  obtain rfl:=Option.some.inj h
  exact TQ.fin (.inl rfl) rfl Try.results35 (.tmp rfl .nil) rfl (FRel.mk (Ls:=[]) [] 0 (Gd.le.refl _) rfl rfl rfl ⟨rfl,rfl,rfl⟩)
 ·
  refine TC.skip ?_
  refine TQ.then_ ?_
  refine TC.seq ?_
  refine TC.seq ?_
  refine TC.region ?_
  refine TV rfl rfl rfl (Val.move rfl) ?_
  refine TV rfl rfl rfl (Val.len Try.underlying23 rfl) ?_
  refine TV rfl rfl rfl (Val.move rfl) ?_
  refine TL.nil ?_
  refine TQ.then_ ?_
  obtain ⟨o247,ho247,ko247⟩:=bind_no h
  clear h
  refine TC.tail (fun a W=>(.inr ())=o247∧Fr 26 a []∧Own G (L) W) ?_ ?_
  ·
   rintro a W ⟨rfl,hF,hO⟩
   have h:=ko247
   clear ko247 ho247
   refine TQ.use ?_ hF hO
   clear hF hO
   refine TQ.then_ ?_
   refine TC.seq ?_
   refine TC.region ?_
   refine TV rfl rfl rfl (Val.assign rfl) ?_
   refine TL.nil ?_
   refine TQ.then_ ?_
   refine TC.ret ?_
   obtain rfl:=Option.some.inj h
   exact TQ.fin (.inl rfl) rfl Try.results35 (.tmp rfl .nil) rfl (FRel.mk (Ls:=[]) [] 0 (Gd.le.refl _) rfl rfl rfl ⟨rfl,rfl,rfl⟩)
  ·
   refine TC.block ?_
   intro a W hF hO
   have hS:∃ (x168:Int),slices_Equal_int_int.l0 a0 a1 (a0.length + 1) x168=some o247∧Fr 26 a [(0,.slice A1 a0.length c2),(1,.slice A5 a1.length c6),(12,VI (a0.length:Int)),(13,VI x168)]∧Own G (L) W:=by
    exact ⟨0,ho247,hF.sub ⟨rfl,rfl,rfl,rfl,trivial⟩,hO.selT (Ls:=[]) [] 0 rfl rfl rfl⟩
   clear hF hO ho247
   refine TC.loop (fun n248 a W=>∃ (x168:Int),slices_Equal_int_int.l0 a0 a1 n248 x168=some o247∧Fr 26 a [(0,.slice A1 a0.length c2),(1,.slice A5 a1.length c6),(12,VI (a0.length:Int)),(13,VI x168)]∧Own G (L) W) ?_ ?_ hS
   ·
    rintro a W ⟨x168,h,hF,hO⟩
    exact none_no h
   ·
    clear hS
    rintro n248 a W ⟨x168,h,hF,hO⟩
    rw [slices_Equal_int_int.l0] at h
    refine TC.use ?_ hF hO
    clear hF hO
    refine TC.seq ?_
    refine TC.region ?_
    refine TV rfl rfl rfl (Val.cmp rfl rfl run_lss) ?_
    refine TL.nil ?_
    refine TQ.then_ ?_
    refine TC.seq ?_
    refine TC.cond_p rfl h (fun hc328 h=>?_) (fun hc328 h=>?_)
    ·
     refine TC.skip ?_
     refine TQ.then_ ?_
     refine TC.seq ?_
     refine TC.block ?_
     refine TC.seq ?_
     refine TC.region ?_
     refine TV rfl rfl rfl (Val.move rfl) ?_
     refine TV rfl rfl rfl (Val.assign rfl) ?_
     refine TL.nil ?_
     refine TQ.then_ ?_
     refine TC.seq ?_
     refine TC.regionAny [] [0,1,2,3,4,5,6,7,8] mixed (by kernel_rfl) ?_
     refine TA.take 0 rfl (by kernel_rfl) rfl (PQ.then_ (PQ.inB (PQ.then_ (PQ.then_ (PQ.inB (PQ.then_ (PQ.then_ PQ.body))))))) rfl (Val.move rfl) (fun W hO=>hO) ?_
     refine TA.take 1 rfl (by kernel_rfl) rfl (PQ.then_ (PQ.inB (PQ.then_ (PQ.then_ (PQ.inB (PQ.then_ (PQ.then_ PQ.body))))))) rfl (Val.move rfl) (fun W hO=>hO) ?_
     obtain ⟨y385,hx386,h⟩:=bind_no h
     obtain ⟨ad387,cs393,hA388,hi389,hj390,hcl391,hK392⟩:=Rd.at hr3 hx386
     obtain rfl:=RdK.int hK392
     refine TA.take 2 rfl (by kernel_rfl) rfl (PQ.then_ (PQ.inB (PQ.then_ (PQ.then_ (PQ.inB (PQ.then_ (PQ.then_ PQ.body))))))) rfl (Val.indexAddr Try.underlying23 fsz3 rfl hA388 rfl hi389 hj390) (fun W hO=>hO) ?_
     refine TA.take 3 rfl (by kernel_rfl) rfl (PQ.then_ (PQ.inB (PQ.then_ (PQ.then_ (PQ.inB (PQ.then_ (PQ.then_ PQ.body))))))) rfl (Val.loadS agg3 rfl (hcl391 0 _ rfl)) (fun W hO=>hO) ?_
     refine TA.take 4 rfl (by kernel_rfl) rfl (PQ.then_ (PQ.inB (PQ.then_ (PQ.then_ (PQ.inB (PQ.then_ (PQ.then_ PQ.body))))))) rfl (Val.move rfl) (fun W hO=>hO) ?_
     refine TA.take 5 rfl (by kernel_rfl) rfl (PQ.then_ (PQ.inB (PQ.then_ (PQ.then_ (PQ.inB (PQ.then_ (PQ.then_ PQ.body))))))) rfl (Val.move rfl) (fun W hO=>hO) ?_
     obtain ⟨y394,hx395,h⟩:=bind_no h
     obtain ⟨ad396,cs402,hA397,hi398,hj399,hcl400,hK401⟩:=Rd.at hr7 hx395
     obtain rfl:=RdK.int hK401
     refine TA.take 6 rfl (by kernel_rfl) rfl (PQ.then_ (PQ.inB (PQ.then_ (PQ.then_ (PQ.inB (PQ.then_ (PQ.then_ PQ.body))))))) rfl (Val.indexAddr Try.underlying23 fsz3 rfl hA397 rfl hi398 hj399) (fun W hO=>hO) ?_
     refine TA.take 7 rfl (by kernel_rfl) rfl (PQ.then_ (PQ.inB (PQ.then_ (PQ.then_ (PQ.inB (PQ.then_ (PQ.then_ PQ.body))))))) rfl (Val.loadS agg3 rfl (hcl400 0 _ rfl)) (fun W hO=>hO) ?_
     refine TA.take 8 rfl (by kernel_rfl) rfl (PQ.then_ (PQ.inB (PQ.then_ (PQ.then_ (PQ.inB (PQ.then_ (PQ.then_ PQ.body))))))) rfl (Val.cmp rfl rfl run_neq) (fun W hO=>hO) ?_
     refine TA.done (by kernel_rfl) ?_
     refine TQ.then_ ?_
     refine TC.cond_b rfl h (fun hc404 h=>?_) (fun hc404 h=>?_)
     ·
      refine TC.seq ?_
      refine TC.region ?_
      refine TV rfl rfl rfl (Val.assign rfl) ?_
      refine TL.nil ?_
      refine TQ.then_ ?_
      refine TC.ret ?_
      refine TQ.inBR ?_
      refine TQ.thenR ?_
      refine TQ.thenR ?_
      refine TQ.inBR ?_
      refine TQ.thenR ?_
      refine TQ.thenR ?_
      obtain rfl:=Option.some.inj h
      have h:=ko247
      obtain rfl:=Option.some.inj h
      exact TQ.fin (.inl rfl) rfl Try.results35 (.tmp rfl .nil) rfl (FRel.mk (Ls:=[]) [] 0 (Gd.le.refl _) rfl rfl rfl ⟨rfl,rfl,rfl⟩)
     ·
      refine TC.skip ?_
      refine TQ.inB ?_
      refine TQ.then_ ?_
      refine TC.region ?_
      refine TV rfl rfl rfl (Val.cmp rfl rfl run_add) ?_
      refine TV rfl rfl rfl (Val.move rfl) ?_
      refine TL.nil ?_
      exact fun a W hF hO=>⟨IntKind.i64.wrap (x168 + 1),h,hF.sub ⟨rfl,rfl,rfl,rfl,trivial⟩,hO.selT (Ls:=[]) [] 0 rfl rfl rfl⟩
    ·
     refine TC.exit ?_
     refine TQ.thenX ?_
     refine TQ.thenX ?_
     refine TQ.inBX ?_
     exact fun a W hF hO=>⟨Option.some.inj h,hF.sub trivial,hO.selT (Ls:=[]) [] 0 rfl rfl rfl⟩
def trace_Same.f (a0:S28) (a1:S28):Option Bool:=(if a0.f1=a1.f1 then (slices_Equal_int_int.f a0.f0 a1.f0).bind fun (y18:Bool)=>some y18 else some false)
def trace_Same.post (G:Gd)  (r:Bool) (v:Value) (G':Gd) (Lr:List Ch):Prop:=G=G'∧v=.bool r∧Lr=[]
theorem trace_Same.calls {G:Gd} {r:Bool} {a0:S28} {a1:S28} {A1:Option Addr} {c2:Nat} {A5:Option Addr} {c6:Nat} (hr3:Rd G kI A1 a0.f0) (hl4:a0.f0.length ≤ c2) (hr7:Rd G kI A5 a1.f0) (hl8:a1.f0.length ≤ c6) (h:trace_Same.f a0 a1=some r):Fn Try.prog 17 G [] [.agg #[.slice A1 a0.f0.length c2,VI a0.f1,VI a0.f2,VI a0.f3,VI a0.f4],.agg #[.slice A5 a1.f0.length c6,VI a1.f1,VI a1.f2,VI a1.f3,VI a1.f4]] (trace_Same.post G  r):=by
 refine Fn.intro (e:=[(0,.agg #[.slice A1 a0.f0.length c2,VI a0.f1,VI a0.f2,VI a0.f3,VI a0.f4]),(1,.agg #[.slice A5 a1.f0.length c6,VI a1.f1,VI a1.f2,VI a1.f3,VI a1.f4])]) 17 Try.func17 rfl Try.ntmps17 rfl rfl (Nat.le_of_ble_eq_true rfl) (fun L=>?_)
 unfold trace_Same.f at h
 refine TC.seq ?_
 refine TC.region ?_
 refine TL.cons (TL.box (cs:=[.slice A1 a0.f0.length c2,VI a0.f1,VI a0.f2,VI a0.f3,VI a0.f4]) rfl rfl rfl rfl (fun b9=>?_))
 refine TL.cons (TL.box (cs:=[.slice A5 a1.f0.length c6,VI a1.f1,VI a1.f2,VI a1.f3,VI a1.f4]) rfl rfl rfl rfl (fun b10=>?_))
 refine TV rfl rfl rfl (Val.assign rfl) ?_
 refine TL.nil ?_
 refine TQ.then_ ?_
 refine TC.seq ?_
 refine TC.region ?_
 refine TV rfl rfl rfl (Val.fieldAddrB Try.underlying28 rfl fsz26 rfl rfl rfl) ?_
 refine TV rfl rfl rfl (Val.loadB 1 agg26 rfl rfl rfl) ?_
 refine TV rfl rfl rfl (Val.fieldAddrB Try.underlying28 rfl fsz26 rfl rfl rfl) ?_
 refine TV rfl rfl rfl (Val.loadB 0 agg26 rfl rfl rfl) ?_
 refine TV rfl rfl rfl (Val.cmp rfl rfl run_eql) ?_
 refine TV rfl rfl rfl (Val.move rfl) ?_
 refine TK.split (p:=a0.f1=a1.f1) h (fun hg16 h=>?_) (fun hg16 h=>?_)
 ·
  have hk17:decide (a0.f1=a1.f1)=true:=decide_eq_true hg16
  refine TV (Wt.yes rfl rfl rfl hk17) rfl rfl (Val.fieldAddrB Try.underlying28 rfl fsz23 rfl rfl rfl) ?_
  refine TV (Wt.yes rfl rfl rfl hk17) rfl rfl (Val.loadB 1 agg23 rfl rfl rfl) ?_
  refine TV (Wt.yes rfl rfl rfl hk17) rfl rfl (Val.fieldAddrB Try.underlying28 rfl fsz23 rfl rfl rfl) ?_
  refine TV (Wt.yes rfl rfl rfl hk17) rfl rfl (Val.loadB 0 agg23 rfl rfl rfl) ?_
  obtain ⟨y18,hy19,h⟩:=bind_no h
  refine TL.cons (TL.callV (Lin:=[]) (args:=[.slice A1 a0.f0.length c2,.slice A5 a1.f0.length c6]) (Wt.yes rfl rfl rfl hk17) rfl rfl hbd35 rfl rfl (slices_Equal_int_int.calls (a0:=a0.f0) (a1:=a1.f0) hr3 hl4 hr7 hl8 hy19) rfl ?_)
  rintro _ _ _ _ ⟨rfl,rfl,rfl⟩
  refine TV rfl rfl rfl (Val.pickY rfl hk17 rfl) ?_
  refine TV rfl rfl rfl (Val.assign rfl) ?_
  refine TL.nil ?_
  refine TQ.then_ ?_
  refine TC.ret ?_
  obtain rfl:=Option.some.inj h
  exact TQ.fin (.inl rfl) rfl Try.results17 (.tmp rfl .nil) rfl (FRel.mk (Ls:=[]) [] 2 (Gd.le.refl _) rfl rfl rfl ⟨rfl,rfl,rfl⟩)
 ·
  have hk20:decide (a0.f1=a1.f1)=false:=decide_eq_false hg16
  refine TL.cons (TL.not (Wt.no rfl rfl rfl hk20) rfl ?_)
  refine TL.cons (TL.not (Wt.no rfl rfl rfl hk20) rfl ?_)
  refine TL.cons (TL.not (Wt.no rfl rfl rfl hk20) rfl ?_)
  refine TL.cons (TL.not (Wt.no rfl rfl rfl hk20) rfl ?_)
  refine TL.cons (TL.not (Wt.no rfl rfl rfl hk20) rfl ?_)
  refine TV rfl rfl rfl (Val.pickN rfl hk20 rfl) ?_
  refine TV rfl rfl rfl (Val.assign rfl) ?_
  refine TL.nil ?_
  refine TQ.then_ ?_
  refine TC.ret ?_
  obtain rfl:=Option.some.inj h
  exact TQ.fin (.inl rfl) rfl Try.results17 (.tmp rfl .nil) rfl (FRel.mk (Ls:=[]) [] 2 (Gd.le.refl _) rfl rfl rfl ⟨rfl,rfl,rfl⟩)
end Go.Proofs.Ytfmocegnpmomnaa.Sy
set_option linter.unusedVariables false
set_option linter.unusedSimpArgs false
namespace Go.Proofs.Ytfmocegnpmomnaa.Sy
open Go Go.RowKit Go.Proofs.YtfmocegnpmomnaaW.PrintWords Go.Proofs.Ytfmocegnpmomnaa.SyO
/-- The law's function: two numbers are read, and reckoned with. -/
abbrev rkF (k : Int) : S45 := ⟨0, [(⟨[(⟨8, 1, 0, 0, 0, []⟩ : S37), (⟨8, 2, 0, 0, 0, []⟩ : S37), (⟨2, 3, 1, 2, k, []⟩ : S37), (⟨9, 0, 3, 0, 0, []⟩ : S37)], (⟨3, 3, 0, 0⟩ : S40)⟩ : S42)]⟩
theorem flag_f (b : Bool) : ∃ n, word_flag.f b = some n := by unfold word_flag.f; split <;> exact ⟨_, rfl⟩
theorem cmp_f (a b : Int) : ∃ n, cmp_Compare_int.f a b = some n := by
  unfold cmp_Compare_int.f
  simp only [cmp_isNaN_int.f, jn, Option.bind_some]
  repeat' (first | exact ⟨_, rfl⟩ | split)
theorem ordered_f (k a b : Int) : ∃ n, word_ordered_int.f k a b = some n := by
  obtain ⟨c, hc⟩ := cmp_f a b
  unfold word_ordered_int.f
  rw [hc, Option.bind_some]
  obtain ⟨n1, e1⟩ := flag_f (decide (c < 0))
  obtain ⟨n2, e2⟩ := flag_f (decide (c ≤ 0))
  obtain ⟨n3, e3⟩ := flag_f (decide (c = 0))
  obtain ⟨n4, e4⟩ := flag_f (!decide (c = 0))
  rw [e1, e2, e3, e4]
  simp only [Option.bind_some]
  repeat' (first | exact ⟨_, rfl⟩ | split)
theorem plain_f (k a b : Int) : ∃ n, word_plain.f k a b = some n := by
  obtain ⟨c, hc⟩ := ordered_f k a b
  unfold word_plain.f
  rw [hc]
  simp only [Option.bind_some]
  repeat' (first | exact ⟨_, rfl⟩ | split)
theorem moved_f (k a b : Int) : ∃ n, word_moved.f k a b = some n := by
  have h : ¬ IntKind.u64.wrap (if 64 < b then 64 else b) < 0 := by
    have : IntKind.u64.wrap (if 64 < b then 64 else b) = (if 64 < b then 64 else b) % 18446744073709551616 := rfl
    rw [this]; omega
  unfold word_moved.f
  rw [if_pos h, if_pos h]
  split <;> exact ⟨_, rfl⟩
theorem divided_f (k a b : Int) (h : ¬ b = 0) : ∃ n, word_divided.f k a b = some n := by
  unfold word_divided.f
  rw [if_pos h, if_pos h]
  split <;> exact ⟨_, rfl⟩
theorem do_f (k a b : Int) : ∃ n e, word_Do.f k a b = some (n, e) := by
  obtain ⟨c1, h1⟩ := plain_f k a b
  obtain ⟨c2, h2⟩ := moved_f k a b
  have hk : ∃ w, word_Known.f k = some w := by unfold word_Known.f; split <;> exact ⟨_, rfl⟩
  obtain ⟨w, hw⟩ := hk
  unfold word_Do.f
  simp only [jn, h1, h2, hw, Option.bind_some]
  by_cases hb : b = 0
  · simp only [hb, if_true]; repeat' (first | exact ⟨_, _, rfl⟩ | split)
  · obtain ⟨c3, h3⟩ := divided_f k a b hb
    simp only [h3, Option.bind_some]
    repeat' (first | exact ⟨_, _, rfl⟩ | split)
theorem uses_mem {o : S37} (h : Ro o) (hl : o.f5.length ≤ 20) : ∃ u, code_Uses.f o = some u ∧ (∀ a ∈ u, Rg a) ∧ u.length ≤ 30 ∧ ((o.f0 = 2 ∨ o.f0 = 3 ∨ o.f0 = 4 ∨ o.f0 = 5 ∨ o.f0 = 9) → o.f2 ∈ u) ∧ ((o.f0 = 2 ∨ o.f0 = 5) → o.f3 ∈ u) ∧ (o.f0 = 7 → ∀ a ∈ o.f5, a ∈ u) := by
  unfold code_Uses.f
  rw [shape_f]
  unfold Ro at h
  have hl2 : o.f5.length ≤ 17592186044416 := by omega
  rcases h with h | h | h | h | h | h | h | h | h
  · exact ⟨[], by simp [jn, h.1], by simp, by simp, by simp [h.1], by simp [h.1], by simp [h.1]⟩
  · exact ⟨[o.f2, o.f3], by simp [jn, h.1], by intro a ha; simp at ha; rcases ha with rfl | rfl; exact h.2.2.1; exact h.2.2.2.1, by simp, by simp, by simp, by simp [h.1]⟩
  · exact ⟨[o.f2], by simp [jn, h.1], by intro a ha; simp at ha; subst ha; exact h.2.2.1, by simp, by simp, by simp [h.1], by simp [h.1]⟩
  · exact ⟨[o.f2], by simp [jn, h.1], by intro a ha; simp at ha; subst ha; exact h.2.2.1, by simp, by simp, by simp [h.1], by simp [h.1]⟩
  · exact ⟨[o.f2, o.f3], by simp [jn, h.1], by intro a ha; simp at ha; rcases ha with rfl | rfl; exact h.2.2.1; exact h.2.2.2.1, by simp, by simp, by simp, by simp [h.1]⟩
  · exact ⟨[], by simp [jn, h.1], by simp, by simp, by simp [h.1], by simp [h.1], by simp [h.1]⟩
  · exact ⟨o.f5, by simp [jn, h.1, hl2], h.2.2.2.2, by omega, by simp [h.1], by simp [h.1], fun _ a ha => ha⟩
  · exact ⟨[], by simp [jn, h.1], by simp, by simp, by simp [h.1], by simp [h.1], by simp [h.1]⟩
  · exact ⟨[o.f2], by simp [jn, h.1], by intro a ha; simp at ha; subst ha; exact h.2.2.1, by simp, by simp, by simp [h.1], by simp [h.1]⟩
theorem sets_eq {o : S37} (h : Ro o) : ∃ s, code_Sets.f o = some s ∧ 0 ≤ s ∧ s ≤ 4096 ∧ o.f1 ≤ s := by
  unfold code_Sets.f
  rw [shape_f]
  unfold Ro at h
  rcases h with h | h | h | h | h | h | h | h | h
  · exact ⟨o.f1, by simp [h.1], by have := h.2.1.1; omega, h.2.1.2, by omega⟩
  · exact ⟨o.f1, by simp [h.1], by have := h.2.1.1; omega, h.2.1.2, by omega⟩
  · exact ⟨o.f1, by simp [h.1], by have := h.2.1.1; omega, h.2.1.2, by omega⟩
  · exact ⟨o.f1, by simp [h.1], by have := h.2.1.1; omega, h.2.1.2, by omega⟩
  · exact ⟨0, by simp [h.1], by omega, by omega, by omega⟩
  · exact ⟨o.f1, by simp [h.1], by have := h.2.1.1; omega, h.2.1.2, by omega⟩
  · exact ⟨o.f1, by simp [h.1], by have := h.2.1.1; omega, h.2.1.2, by omega⟩
  · exact ⟨o.f1, by simp [h.1], by have := h.2.1.1; omega, h.2.1.2, by omega⟩
  · exact ⟨0, by simp [h.1], by omega, by omega, by omega⟩
theorem tuses_mem {t : S40} {n : Nat} (h : Rt t n) : ∃ u, code_TermUses.f t = some u ∧ (∀ a ∈ u, Rg a) ∧ u.length ≤ 30 ∧ ((t.f0 = 2 ∨ t.f0 = 3) → t.f1 ∈ u) := by
  unfold code_TermUses.f
  unfold Rt at h
  rcases h with h | h | h | h
  · exact ⟨[], by simp [jn, h.1], by simp, by simp, by simp [h.1]⟩
  · exact ⟨[t.f1], by simp [jn, h.1], by intro a ha; simp at ha; subst ha; exact h.2.2.2.2.2, by simp, by simp⟩
  · exact ⟨[t.f1], by simp [jn, h.1], by intro a ha; simp at ha; subst ha; exact h.2.1, by simp, by simp⟩
  · exact ⟨[], by simp [jn, h.1], by simp, by simp, by simp [h.1]⟩
/-- An operation beside so many registers; a block's end. -/
structure Oz (z : Int) (o : S37) : Prop where
  ro : Ro o
  args : o.f5.length ≤ 20
  dst : o.f1 ≤ z
  a : (o.f0 = 2 ∨ o.f0 = 3 ∨ o.f0 = 4 ∨ o.f0 = 5 ∨ o.f0 = 9) → o.f2 ≤ z
  b : (o.f0 = 2 ∨ o.f0 = 5) → o.f3 ≤ z
  c : o.f0 = 7 → ∀ a ∈ o.f5, a ≤ z
theorem regs_m4 {u : List Int} (hl : u.length ≤ 1000) (hu : ∀ a ∈ u, Rg a) (x : Int) (h0 : 0 ≤ x) (h1 : x ≤ 4096) : ∃ z, code_Regs.l4 u (u.length + 1) 0 x = some z ∧ x ≤ z ∧ z ≤ 4096 ∧ ∀ a ∈ u, a ≤ z := by
  have := loopd (xs := u) (F := fun n i w => code_Regs.l4 u n i w) (P := fun ys f => ∀ w : Int, 0 ≤ w → w ≤ 4096 → ∃ z, f w = some z ∧ w ≤ z ∧ z ≤ 4096 ∧ ∀ a ∈ ys, a ≤ z) (by omega) (fun n w h0 h1 => ⟨w, by simp [code_Regs.l4], by omega, h1, by simp⟩) (fun n i y r hd hlt hat hm hw ih w h0 h1 => by
    have hy := hu y hm
    obtain ⟨z, z1, z2, z3, z4⟩ := ih (if w < y then y else w) (by split <;> omega) (by have := hy.2; split <;> omega)
    refine ⟨z, ?_, by split at z2 <;> omega, z3, fun a ha => ?_⟩
    · show code_Regs.l4 u (n + 1) i w = _
      rw [code_Regs.l4, if_pos hlt, hat, Option.bind_some, hw]; exact z1
    · rcases List.mem_cons.1 ha with rfl | ha
      · split at z2 <;> omega
      · exact z4 a ha) (u.length + 1) (by omega)
  exact this x h0 h1
theorem regs_m2 {u : List Int} (hl : u.length ≤ 1000) (hu : ∀ a ∈ u, Rg a) (x : Int) (h0 : 0 ≤ x) (h1 : x ≤ 4096) : ∃ z, code_Regs.l2 u (u.length + 1) 0 x = some z ∧ x ≤ z ∧ z ≤ 4096 ∧ ∀ a ∈ u, a ≤ z := by
  have := loopd (xs := u) (F := fun n i w => code_Regs.l2 u n i w) (P := fun ys f => ∀ w : Int, 0 ≤ w → w ≤ 4096 → ∃ z, f w = some z ∧ w ≤ z ∧ z ≤ 4096 ∧ ∀ a ∈ ys, a ≤ z) (by omega) (fun n w h0 h1 => ⟨w, by simp [code_Regs.l2], by omega, h1, by simp⟩) (fun n i y r hd hlt hat hm hw ih w h0 h1 => by
    have hy := hu y hm
    obtain ⟨z, z1, z2, z3, z4⟩ := ih (if w < y then y else w) (by split <;> omega) (by have := hy.2; split <;> omega)
    refine ⟨z, ?_, by split at z2 <;> omega, z3, fun a ha => ?_⟩
    · show code_Regs.l2 u (n + 1) i w = _
      rw [code_Regs.l2, if_pos hlt, hat, Option.bind_some, hw]; exact z1
    · rcases List.mem_cons.1 ha with rfl | ha
      · split at z2 <;> omega
      · exact z4 a ha) (u.length + 1) (by omega)
  exact this x h0 h1
theorem Oz.mono {z z' : Int} {o : S37} (h : Oz z o) (hz : z ≤ z') : Oz z' o := ⟨h.ro, h.args, Int.le_trans h.dst hz, fun q => Int.le_trans (h.a q) hz, fun q => Int.le_trans (h.b q) hz, fun q a ha => Int.le_trans (h.c q a ha) hz⟩
theorem regs_m3 {y : S42} (hl : y.f0.length ≤ 250) (ho : ∀ o ∈ y.f0, Ro o ∧ o.f5.length ≤ 20) (x : Int) (h0 : 0 ≤ x) (h1 : x ≤ 4096) : ∃ z, code_Regs.l3 y (y.f0.length + 1) 0 x = some z ∧ x ≤ z ∧ z ≤ 4096 ∧ ∀ o ∈ y.f0, Oz z o := by
  have := loopd (xs := y.f0) (F := fun n i w => code_Regs.l3 y n i w) (P := fun os f => ∀ w : Int, 0 ≤ w → w ≤ 4096 → ∃ z, f w = some z ∧ w ≤ z ∧ z ≤ 4096 ∧ ∀ o ∈ os, Oz z o) (by omega) (fun n w h0 h1 => ⟨w, by simp [code_Regs.l3], by omega, h1, by simp⟩) (fun n i o r hd hlt hat hm hw ih w h0 h1 => by
    obtain ⟨hro, hla⟩ := ho o hm
    obtain ⟨u, u1, u2, u3, u4, u5, u6⟩ := uses_mem hro hla
    obtain ⟨s, s1, s2, s3, s4⟩ := sets_eq hro
    obtain ⟨v, v1, v2, v3, v4⟩ := regs_m4 (u := u) (by omega) u2 (if w < s then s else w) (by split <;> omega) (by split <;> omega)
    obtain ⟨z, z1, z2, z3, z4⟩ := ih v (by split at v2 <;> omega) v3
    refine ⟨z, ?_, by split at v2 <;> omega, z3, fun q hq => ?_⟩
    · show code_Regs.l3 y (n + 1) i w = _
      rw [code_Regs.l3, if_pos hlt, hat, Option.bind_some, s1, Option.bind_some, u1, Option.bind_some, v1, Option.bind_some, hw]; exact z1
    · rcases List.mem_cons.1 hq with rfl | hq
      · exact ⟨hro, hla, by split at v2 <;> omega, fun k => Int.le_trans (v4 _ (u4 k)) z2, fun k => Int.le_trans (v4 _ (u5 k)) z2, fun k a ha => Int.le_trans (v4 _ (u6 k a ha)) z2⟩
      · exact z4 q hq) (y.f0.length + 1) (by omega)
  exact this x h0 h1
/-- A function beside its registers. -/
structure Fz (z : Nat) (t : S45) : Prop where
  few : Fewp t
  rf : Rf t
  regs : code_Regs.f t = some (z : Int)
  par : t.f0 ≤ z
  le : z ≤ 4096
  op : ∀ y ∈ t.f1, ∀ o ∈ y.f0, Oz z o
  term : ∀ y ∈ t.f1, Rt y.f1 t.f1.length ∧ ((y.f1.f0 = 2 ∨ y.f1.f0 = 3) → y.f1.f1 ≤ z)
theorem regs_full {t : S45} (hf : Fewp t) (hr : Rf t) : ∃ z : Nat, Fz z t := by
  have hf' := hf
  obtain ⟨f1, f2, f3⟩ := hf'
  have hp0 := hr.p0
  have hp1 := hr.p1
  have hx : (if 0 < t.f0 then t.f0 else 0) = t.f0 := by split <;> omega
  have h0 := loopd (xs := t.f1) (F := fun n i w => code_Regs.l0 t n i w) (P := fun os f => ∀ w : Int, 0 ≤ w → w ≤ 4096 → ∃ z, f w = some z ∧ w ≤ z ∧ z ≤ 4096 ∧ ∀ y ∈ os, ∀ o ∈ y.f0, Oz z o) (by omega) (fun n w h0 h1 => ⟨w, by simp [code_Regs.l0], by omega, h1, by simp⟩) (fun n i y r hd hlt hat hm hw ih w h0 h1 => by
    obtain ⟨v, v1, v2, v3, v4⟩ := regs_m3 (f3 y hm).1 (fun o ho => ⟨hr.op y hm o ho, (f3 y hm).2 o ho⟩) w h0 h1
    obtain ⟨z, z1, z2, z3, z4⟩ := ih v (by omega) v3
    refine ⟨z, ?_, by omega, z3, fun q hq => ?_⟩
    · show code_Regs.l0 t (n + 1) i w = _
      rw [code_Regs.l0, if_pos hlt, hat, Option.bind_some, v1, Option.bind_some, hw]; exact z1
    · rcases List.mem_cons.1 hq with rfl | hq
      · exact fun o ho => (v4 o ho).mono z2
      · exact z4 q hq) (t.f1.length + 1) (by omega) t.f0 hp0 (by omega)
  obtain ⟨w, w1, w2, w3, w4⟩ := h0
  have h1 := loopd (xs := t.f1) (F := fun n i w => code_Regs.l1 t n i w) (P := fun os f => ∀ w : Int, 0 ≤ w → w ≤ 4096 → ∃ z, f w = some z ∧ w ≤ z ∧ z ≤ 4096 ∧ ∀ y ∈ os, (y.f1.f0 = 2 ∨ y.f1.f0 = 3) → y.f1.f1 ≤ z) (by omega) (fun n w h0 h1 => ⟨w, by simp [code_Regs.l1], by omega, h1, by simp⟩) (fun n i y r hd hlt hat hm hw ih w h0 h1 => by
    obtain ⟨u, u1, u2, u3, u4⟩ := tuses_mem (hr.term y hm)
    obtain ⟨v, v1, v2, v3, v4⟩ := regs_m2 (u := u) (by omega) u2 w h0 h1
    obtain ⟨z, z1, z2, z3, z4⟩ := ih v (by omega) v3
    refine ⟨z, ?_, by omega, z3, fun q hq => ?_⟩
    · show code_Regs.l1 t (n + 1) i w = _
      rw [code_Regs.l1, if_pos hlt, hat, Option.bind_some, u1, Option.bind_some, v1, Option.bind_some, hw]; exact z1
    · rcases List.mem_cons.1 hq with rfl | hq
      · exact fun k => Int.le_trans (v4 _ (u4 k)) z2
      · exact z4 q hq) (t.f1.length + 1) (by omega) w (by omega) w3
  obtain ⟨z, z1, z2, z3, z4⟩ := h1
  have hz0 : 0 ≤ z := by omega
  have e : ((z.toNat : Nat) : Int) = z := by omega
  refine ⟨z.toNat, hf, hr, ?_, by omega, by omega, fun y hy o ho => ?_, fun y hy => ⟨hr.term y hy, fun k => by rw [e]; exact z4 y hy k⟩⟩
  · unfold code_Regs.f
    have w1' : code_Regs.l0 t (t.f1.length + 1) 0 t.f0 = some w := w1
    have z1' : code_Regs.l1 t (t.f1.length + 1) 0 w = some z := z1
    rw [hx, w1', Option.bind_some, z1', Option.bind_some, e]
  · rw [e]; exact (w4 y hy o ho).mono z2
end Go.Proofs.Ytfmocegnpmomnaa.Sy
set_option linter.unusedVariables false
set_option linter.unusedSimpArgs false
set_option maxRecDepth 100000
set_option maxHeartbeats 4000000
namespace Go.Proofs.Ytfmocegnpmomnaa.Sy
open Go Go.RowKit Go.Proofs.YtfmocegnpmomnaaW.PrintWords 
def swageref14_Sets.f (a0:S37):Option Int:=jn (γ:=Int) (fun (x12:Bool)=>(if x12=true then some 0 else some a0.f1)) (fun (j13:(Bool → Option Int))=>(if a0.f0 < 1 then j13 true else (if 8 < a0.f0 then j13 true else j13 (decide (a0.f0=5)))))
def swageref14_Sets.post (G:Gd)  (r:Int) (v:Value) (G':Gd) (Lr:List Ch):Prop:=G=G'∧v=VI r∧Lr=[]
theorem swageref14_Sets.calls {G:Gd} {r:Int} {a0:S37} {A1:Option Addr} {c2:Nat} (hr3:Rd G kI A1 a0.f5) (hl4:a0.f5.length ≤ c2) (h:swageref14_Sets.f a0=some r):Fn Try.prog 50 G [] [.agg #[VI a0.f0,VI a0.f1,VI a0.f2,VI a0.f3,VI a0.f4,.slice A1 a0.f5.length c2]] (swageref14_Sets.post G  r):=by
 refine Fn.intro (e:=[(0,.agg #[VI a0.f0,VI a0.f1,VI a0.f2,VI a0.f3,VI a0.f4,.slice A1 a0.f5.length c2])]) 18 Try.func50 rfl Try.ntmps50 rfl rfl (Nat.le_of_ble_eq_true rfl) (fun L=>?_)
 unfold swageref14_Sets.f at h
 refine TC.seq ?_
 refine TC.region ?_
 refine TL.cons (TL.box (cs:=[VI a0.f0,VI a0.f1,VI a0.f2,VI a0.f3,VI a0.f4,.slice A1 a0.f5.length c2]) rfl rfl rfl rfl (fun b5=>?_))
 refine TV rfl rfl rfl (Val.assign rfl) ?_
 refine TL.nil ?_
 refine TQ.then_ ?_
 refine TC.seq ?_
 refine TC.seq ?_
 obtain ⟨j13,hj13,h⟩:=jn_no h
 refine TC.tail (fun a W=>∃ (x12:Bool),j13 x12=some r∧Fr 18 a [(1,VP b5 0),(15,.bool x12)]∧Own G (Blk b5 [VI a0.f0,VI a0.f1,VI a0.f2,VI a0.f3,VI a0.f4,.slice A1 a0.f5.length c2] 37::L) W) ?_ ?_
 ·
  rintro a W ⟨x12,h,hF,hO⟩
  rw [hj13] at h
  refine TQ.use ?_ hF hO
  clear hF hO
  refine TQ.then_ ?_
  refine TC.cond_b rfl h (fun hc15 h=>?_) (fun hc15 h=>?_)
  ·
   refine TC.seq ?_
   refine TC.region ?_
   refine TV rfl rfl rfl (Val.assign rfl) ?_
   refine TL.nil ?_
   refine TQ.then_ ?_
   refine TC.ret ?_
   refine TQ.thenR ?_
   obtain rfl:=Option.some.inj h
   exact TQ.fin (.inl rfl) rfl Try.results50 (.tmp rfl .nil) rfl (FRel.mk (Ls:=[]) [] 1 (Gd.le.refl _) rfl rfl rfl ⟨rfl,rfl,rfl⟩)
  ·
   refine TC.skip ?_
   refine TQ.then_ ?_
   refine TC.seq ?_
   refine TC.region ?_
   refine TV rfl rfl rfl (Val.fieldAddrB Try.underlying37 rfl fsz3 rfl rfl rfl) ?_
   refine TV rfl rfl rfl (Val.loadB 0 agg3 rfl rfl rfl) ?_
   refine TV rfl rfl rfl (Val.assign rfl) ?_
   refine TL.nil ?_
   refine TQ.then_ ?_
   refine TC.ret ?_
   obtain rfl:=Option.some.inj h
   exact TQ.fin (.inl rfl) rfl Try.results50 (.tmp rfl .nil) rfl (FRel.mk (Ls:=[]) [] 1 (Gd.le.refl _) rfl rfl rfl ⟨rfl,rfl,rfl⟩)
 ·
  refine TC.region ?_
  refine TV rfl rfl rfl (Val.fieldAddrB Try.underlying37 rfl fsz3 rfl rfl rfl) ?_
  refine TV rfl rfl rfl (Val.loadB 0 agg3 rfl rfl rfl) ?_
  refine TV rfl rfl rfl (Val.cmp rfl rfl run_lss) ?_
  refine TV rfl rfl rfl (Val.move rfl) ?_
  refine TK.split (p:=a0.f0 < 1) h (fun hg16 h=>?_) (fun hg16 h=>?_)
  ·
   have hk17:decide (a0.f0 < 1)=true:=decide_eq_true hg16
   refine TL.cons (TL.not (Wt.no rfl rfl rfl hk17) rfl ?_)
   refine TL.cons (TL.not (Wt.no rfl rfl rfl hk17) rfl ?_)
   refine TL.cons (TL.not (Wt.no rfl rfl rfl hk17) rfl ?_)
   refine TV rfl rfl rfl (Val.pickY rfl hk17 rfl) ?_
   refine TV rfl rfl rfl (Val.move rfl) ?_
   refine TL.cons (TL.not (Wt.no rfl rfl rfl rfl) rfl ?_)
   refine TL.cons (TL.not (Wt.no rfl rfl rfl rfl) rfl ?_)
   refine TL.cons (TL.not (Wt.no rfl rfl rfl rfl) rfl ?_)
   refine TV rfl rfl rfl (Val.pickY rfl rfl rfl) ?_
   refine TL.nil ?_
   exact fun a W hF hO=>⟨true,h,hF.sub ⟨rfl,rfl,trivial⟩,hO.selT (Ls:=[Blk b5 [VI a0.f0,VI a0.f1,VI a0.f2,VI a0.f3,VI a0.f4,.slice A1 a0.f5.length c2] 37]) [0] 1 rfl rfl rfl⟩
  ·
   have hk18:decide (a0.f0 < 1)=false:=decide_eq_false hg16
   refine TV (Wt.yes rfl rfl rfl hk18) rfl rfl (Val.fieldAddrB Try.underlying37 rfl fsz3 rfl rfl rfl) ?_
   refine TV (Wt.yes rfl rfl rfl hk18) rfl rfl (Val.loadB 0 agg3 rfl rfl rfl) ?_
   refine TV (Wt.yes rfl rfl rfl hk18) rfl rfl (Val.cmp rfl rfl run_gtr) ?_
   refine TV rfl rfl rfl (Val.pickN rfl hk18 rfl) ?_
   refine TV rfl rfl rfl (Val.move rfl) ?_
   refine TK.split (p:=8 < a0.f0) h (fun hg19 h=>?_) (fun hg19 h=>?_)
   ·
    have hk20:decide (8 < a0.f0)=true:=decide_eq_true hg19
    refine TL.cons (TL.not (Wt.no rfl rfl rfl hk20) rfl ?_)
    refine TL.cons (TL.not (Wt.no rfl rfl rfl hk20) rfl ?_)
    refine TL.cons (TL.not (Wt.no rfl rfl rfl hk20) rfl ?_)
    refine TV rfl rfl rfl (Val.pickY rfl hk20 rfl) ?_
    refine TL.nil ?_
    exact fun a W hF hO=>⟨true,h,hF.sub ⟨rfl,rfl,trivial⟩,hO.selT (Ls:=[Blk b5 [VI a0.f0,VI a0.f1,VI a0.f2,VI a0.f3,VI a0.f4,.slice A1 a0.f5.length c2] 37]) [0] 1 rfl rfl rfl⟩
   ·
    have hk21:decide (8 < a0.f0)=false:=decide_eq_false hg19
    refine TV (Wt.yes rfl rfl rfl hk21) rfl rfl (Val.fieldAddrB Try.underlying37 rfl fsz3 rfl rfl rfl) ?_
    refine TV (Wt.yes rfl rfl rfl hk21) rfl rfl (Val.loadB 0 agg3 rfl rfl rfl) ?_
    refine TV (Wt.yes rfl rfl rfl hk21) rfl rfl (Val.cmp rfl rfl run_eql) ?_
    refine TV rfl rfl rfl (Val.pickN rfl hk21 rfl) ?_
    refine TL.nil ?_
    exact fun a W hF hO=>⟨decide (a0.f0=5),h,hF.sub ⟨rfl,rfl,trivial⟩,hO.selT (Ls:=[Blk b5 [VI a0.f0,VI a0.f1,VI a0.f2,VI a0.f3,VI a0.f4,.slice A1 a0.f5.length c2] 37]) [0] 1 rfl rfl rfl⟩
def swageref14_Uses.f (a0:S37):Option (List Int):=jn (γ:=(List Int)) (fun (x59:Bool)=>(if x59=true then some ([a0.f2,a0.f3]:List Int) else jn (γ:=(List Int)) (fun (x83:Bool)=>(if x83=true then some ([a0.f2]:List Int) else (if a0.f0=7 then (if ([]:List Int).length + a0.f5.length ≤ 17592186044416 then some (([]:List Int) ++ a0.f5) else none) else some ([]:List Int)))) (fun (j84:(Bool → Option (List Int)))=>(if a0.f0=3 then j84 (decide (a0.f0=3)) else (if a0.f0=4 then j84 (decide (a0.f0=4)) else j84 (decide (a0.f0=9))))))) (fun (j60:(Bool → Option (List Int)))=>(if a0.f0=2 then j60 (decide (a0.f0=2)) else j60 (decide (a0.f0=5))))
def swageref14_Uses.post (G:Gd)  (r:(List Int)) (v:Value) (G':Gd) (Lr:List Ch):Prop:=G=G'∧∃ (A_1:Option Addr) (c_1:Nat),v=.slice A_1 r.length c_1∧Lr=[Row kI 3 (.slice A_1 r.length c_1) r]
theorem swageref14_Uses.calls {G:Gd} {r:(List Int)} {a0:S37} {A1:Option Addr} {c2:Nat} (hr3:Rd G kI A1 a0.f5) (hl4:a0.f5.length ≤ c2) (h:swageref14_Uses.f a0=some r):Fn Try.prog 51 G [] [.agg #[VI a0.f0,VI a0.f1,VI a0.f2,VI a0.f3,VI a0.f4,.slice A1 a0.f5.length c2]] (swageref14_Uses.post G  r):=by
 refine Fn.intro (e:=[(0,.agg #[VI a0.f0,VI a0.f1,VI a0.f2,VI a0.f3,VI a0.f4,.slice A1 a0.f5.length c2])]) 26 Try.func51 rfl Try.ntmps51 rfl rfl (Nat.le_of_ble_eq_true rfl) (fun L=>?_)
 unfold swageref14_Uses.f at h
 refine TC.seq ?_
 refine TC.region ?_
 refine TL.cons (TL.box (cs:=[VI a0.f0,VI a0.f1,VI a0.f2,VI a0.f3,VI a0.f4,.slice A1 a0.f5.length c2]) rfl rfl rfl rfl (fun b5=>?_))
 refine TV rfl rfl rfl (Val.assign rfl) ?_
 refine TL.nil ?_
 refine TQ.then_ ?_
 refine TC.seq ?_
 refine TC.seq ?_
 refine TC.region ?_
 refine TV rfl rfl rfl (Val.fieldAddrB Try.underlying37 rfl fsz3 rfl rfl rfl) ?_
 refine TV rfl rfl rfl (Val.loadB 0 agg3 rfl rfl rfl) ?_
 refine TL.nil ?_
 refine TQ.then_ ?_
 refine TC.block ?_
 refine TC.seq ?_
 refine TC.seq ?_
 refine TC.region ?_
 refine TV rfl rfl rfl (Val.cmp rfl rfl run_eql) ?_
 refine TV rfl rfl rfl (Val.assign rfl) ?_
 refine TL.nil ?_
 refine TQ.then_ ?_
 obtain ⟨j60,hj60,h⟩:=jn_no h
 refine TC.tail (fun a W=>∃ (x59:Bool),j60 x59=some r∧Fr 26 a [(1,VP b5 0),(4,VI a0.f0),(5,.bool x59)]∧Own G (Blk b5 [VI a0.f0,VI a0.f1,VI a0.f2,VI a0.f3,VI a0.f4,.slice A1 a0.f5.length c2] 37::L) W) ?_ ?_
 ·
  rintro a W ⟨x59,h,hF,hO⟩
  rw [hj60] at h
  refine TQ.use ?_ hF hO
  clear hF hO
  refine TQ.then_ ?_
  refine TC.cond_b rfl h (fun hc78 h=>?_) (fun hc78 h=>?_)
  ·
   refine TC.seq ?_
   refine TC.region ?_
   refine TV rfl rfl rfl (Val.fieldAddrB Try.underlying37 rfl fsz3 rfl rfl rfl) ?_
   refine TV rfl rfl rfl (Val.loadB 0 agg3 rfl rfl rfl) ?_
   refine TV rfl rfl rfl (Val.fieldAddrB Try.underlying37 rfl fsz3 rfl rfl rfl) ?_
   refine TV rfl rfl rfl (Val.loadB 0 agg3 rfl rfl rfl) ?_
   refine TL.cons (TL.buildSlice (xs:=[.tmp 9,.tmp 11]) (vs:=[VI a0.f2,VI a0.f3]) (cs:=[VI a0.f2,VI a0.f3]) rfl rfl Try.underlying23 zs3 rfl rfl rfl rfl rfl rfl rfl rfl (fun b79=>?_))
   refine TV rfl rfl rfl (Val.assign rfl) ?_
   refine TL.nil ?_
   refine TQ.then_ ?_
   refine TC.ret ?_
   refine TQ.inBR ?_
   refine TQ.thenR ?_
   refine TQ.new (Els.nil kI) ?_
   refine TQ.new (El.of (k:=kI) (xv:=a0.f2) (cs:=[VI a0.f2]) (fun W B=>rfl)) ?_
   refine TQ.sel (Ls:=[Els kI [] [],El kI a0.f2 [VI a0.f2],Blk b79 [VI a0.f2,VI a0.f3] 3,Blk b5 [VI a0.f0,VI a0.f1,VI a0.f2,VI a0.f3,VI a0.f4,.slice A1 a0.f5.length c2] 37]) [1,0,2,3] 4 rfl rfl rfl ?_
   refine TQ.two (ch:=Els kI [a0.f2] [VI a0.f2]) (Els.snoc kI) ?_
   refine TQ.new (El.of (k:=kI) (xv:=a0.f3) (cs:=[VI a0.f3]) (fun W B=>rfl)) ?_
   refine TQ.sel (Ls:=[Els kI [a0.f2] [VI a0.f2],El kI a0.f3 [VI a0.f3],Blk b79 [VI a0.f2,VI a0.f3] 3,Blk b5 [VI a0.f0,VI a0.f1,VI a0.f2,VI a0.f3,VI a0.f4,.slice A1 a0.f5.length c2] 37]) [1,0,2,3] 4 rfl rfl rfl ?_
   refine TQ.two (ch:=Els kI [a0.f2,a0.f3] [VI a0.f2,VI a0.f3]) (Els.snoc kI) ?_
   refine TQ.sel (Ls:=[Blk b79 [VI a0.f2,VI a0.f3] 3,Els kI [a0.f2,a0.f3] [VI a0.f2,VI a0.f3],Blk b5 [VI a0.f0,VI a0.f1,VI a0.f2,VI a0.f3,VI a0.f4,.slice A1 a0.f5.length c2] 37]) [1,0,2] 3 rfl rfl rfl ?_
   refine TQ.two (ch:=Row kI 3 (.slice (some ⟨b79,0,none⟩) 2 2) ([a0.f2,a0.f3]:List Int)) (Row.lit kI rfl rfl) ?_
   obtain rfl:=Option.some.inj h
   exact TQ.fin (.inl rfl) rfl Try.results51 (.tmp rfl .nil) rfl (FRel.mk (Ls:=[Row kI 3 (.slice (some ⟨b79,0,none⟩) 2 2) ([a0.f2,a0.f3]:List Int)]) [0] 2 (Gd.le.refl _) rfl rfl rfl ⟨rfl,(some ⟨b79,0,none⟩),2,rfl,rfl⟩)
  ·
   refine TC.seq ?_
   refine TC.seq ?_
   refine TC.region ?_
   refine TV rfl rfl rfl (Val.cmp rfl rfl run_eql) ?_
   refine TV rfl rfl rfl (Val.assign rfl) ?_
   refine TL.nil ?_
   refine TQ.then_ ?_
   obtain ⟨j84,hj84,h⟩:=jn_no h
   refine TC.tail (fun a W=>∃ (x83:Bool),j84 x83=some r∧Fr 26 a [(1,VP b5 0),(4,VI a0.f0),(13,.bool x83)]∧Own G (Blk b5 [VI a0.f0,VI a0.f1,VI a0.f2,VI a0.f3,VI a0.f4,.slice A1 a0.f5.length c2] 37::L) W) ?_ ?_
   ·
    rintro a W ⟨x83,h,hF,hO⟩
    rw [hj84] at h
    refine TQ.use ?_ hF hO
    clear hF hO
    refine TQ.then_ ?_
    refine TC.cond_b rfl h (fun hc93 h=>?_) (fun hc93 h=>?_)
    ·
     refine TC.seq ?_
     refine TC.region ?_
     refine TV rfl rfl rfl (Val.fieldAddrB Try.underlying37 rfl fsz3 rfl rfl rfl) ?_
     refine TV rfl rfl rfl (Val.loadB 0 agg3 rfl rfl rfl) ?_
     refine TL.cons (TL.buildSlice (xs:=[.tmp 18]) (vs:=[VI a0.f2]) (cs:=[VI a0.f2]) rfl rfl Try.underlying23 zs3 rfl rfl rfl rfl rfl rfl rfl rfl (fun b94=>?_))
     refine TV rfl rfl rfl (Val.assign rfl) ?_
     refine TL.nil ?_
     refine TQ.then_ ?_
     refine TC.ret ?_
     refine TQ.inBR ?_
     refine TQ.thenR ?_
     refine TQ.new (Els.nil kI) ?_
     refine TQ.new (El.of (k:=kI) (xv:=a0.f2) (cs:=[VI a0.f2]) (fun W B=>rfl)) ?_
     refine TQ.sel (Ls:=[Els kI [] [],El kI a0.f2 [VI a0.f2],Blk b94 [VI a0.f2] 3,Blk b5 [VI a0.f0,VI a0.f1,VI a0.f2,VI a0.f3,VI a0.f4,.slice A1 a0.f5.length c2] 37]) [1,0,2,3] 4 rfl rfl rfl ?_
     refine TQ.two (ch:=Els kI [a0.f2] [VI a0.f2]) (Els.snoc kI) ?_
     refine TQ.sel (Ls:=[Blk b94 [VI a0.f2] 3,Els kI [a0.f2] [VI a0.f2],Blk b5 [VI a0.f0,VI a0.f1,VI a0.f2,VI a0.f3,VI a0.f4,.slice A1 a0.f5.length c2] 37]) [1,0,2] 3 rfl rfl rfl ?_
     refine TQ.two (ch:=Row kI 3 (.slice (some ⟨b94,0,none⟩) 1 1) ([a0.f2]:List Int)) (Row.lit kI rfl rfl) ?_
     obtain rfl:=Option.some.inj h
     exact TQ.fin (.inl rfl) rfl Try.results51 (.tmp rfl .nil) rfl (FRel.mk (Ls:=[Row kI 3 (.slice (some ⟨b94,0,none⟩) 1 1) ([a0.f2]:List Int)]) [0] 2 (Gd.le.refl _) rfl rfl rfl ⟨rfl,(some ⟨b94,0,none⟩),1,rfl,rfl⟩)
    ·
     refine TC.seq ?_
     refine TC.region ?_
     refine TV rfl rfl rfl (Val.cmp rfl rfl run_eql) ?_
     refine TV rfl rfl rfl (Val.assign rfl) ?_
     refine TL.nil ?_
     refine TQ.then_ ?_
     refine TC.cond_p rfl h (fun hc102 h=>?_) (fun hc102 h=>?_)
     ·
      refine TC.seq ?_
      refine TC.region ?_
      refine TL.cons (TL.buildSlice0 kI rfl rfl Try.underlying23 zs3 (fun b103=>?_))
      refine TV rfl rfl rfl (Val.fieldAddrB Try.underlying37 rfl fsz23 rfl rfl rfl) ?_
      refine TV rfl rfl rfl (Val.loadB 1 agg23 rfl rfl rfl) ?_
      obtain ⟨ha105,h⟩:=ite_no h
      refine TL.cons (TL.appendR (xs:=([]:List Int)) (ys:=a0.f5) kI kI rfl rfl Try.underlying23 inf3 rfl (Nat.le_of_ble_eq_true rfl) (Nat.le_of_ble_eq_true rfl) rfl rfl (by omega) hr3 rfl (fun _ _ _ _ _ h=>h) (fun A106 c107=>?_))
      refine TV rfl rfl rfl (Val.assign rfl) ?_
      refine TL.nil ?_
      refine TQ.then_ ?_
      refine TC.ret ?_
      refine TQ.inBR ?_
      refine TQ.thenR ?_
      obtain rfl:=Option.some.inj h
      exact TQ.fin (.inl rfl) rfl Try.results51 (.tmp rfl .nil) rfl (FRel.mk (Ls:=[Row kI 3 (.slice A106 (([]:List Int) ++ a0.f5).length c107) (([]:List Int) ++ a0.f5)]) [0] 2 (Gd.le.refl _) rfl rfl rfl ⟨rfl,A106,c107,rfl,rfl⟩)
     ·
      refine TC.skip ?_
      refine TQ.inB ?_
      refine TQ.then_ ?_
      refine TC.seq ?_
      refine TC.region ?_
      refine TV rfl rfl rfl (Val.assign rfl) ?_
      refine TL.nil ?_
      refine TQ.then_ ?_
      refine TC.ret ?_
      refine TQ.nilRow kI 3 ?_
      obtain rfl:=Option.some.inj h
      exact TQ.fin (.inl rfl) rfl Try.results51 (.tmp rfl .nil) rfl (FRel.mk (Ls:=[Row kI 3 (.slice none 0 0) ([]:List Int)]) [0] 2 (Gd.le.refl _) rfl rfl rfl ⟨rfl,none,0,rfl,rfl⟩)
   ·
    refine TC.cond_p rfl h (fun hc109 h=>?_) (fun hc109 h=>?_)
    ·
     refine TC.skip ?_
     exact fun a W hF hO=>⟨decide (a0.f0=3),h,hF.sub ⟨rfl,rfl,rfl,trivial⟩,hO.selT (Ls:=[Blk b5 [VI a0.f0,VI a0.f1,VI a0.f2,VI a0.f3,VI a0.f4,.slice A1 a0.f5.length c2] 37]) [0] 1 rfl rfl rfl⟩
    ·
     refine TC.seq ?_
     refine TC.region ?_
     refine TV rfl rfl rfl (Val.cmp rfl rfl run_eql) ?_
     refine TV rfl rfl rfl (Val.assign rfl) ?_
     refine TL.nil ?_
     refine TQ.then_ ?_
     refine TC.cond_p rfl h (fun hc111 h=>?_) (fun hc111 h=>?_)
     ·
      refine TC.skip ?_
      exact fun a W hF hO=>⟨decide (a0.f0=4),h,hF.sub ⟨rfl,rfl,rfl,trivial⟩,hO.selT (Ls:=[Blk b5 [VI a0.f0,VI a0.f1,VI a0.f2,VI a0.f3,VI a0.f4,.slice A1 a0.f5.length c2] 37]) [0] 1 rfl rfl rfl⟩
     ·
      refine TC.region ?_
      refine TV rfl rfl rfl (Val.cmp rfl rfl run_eql) ?_
      refine TV rfl rfl rfl (Val.assign rfl) ?_
      refine TL.nil ?_
      exact fun a W hF hO=>⟨decide (a0.f0=9),h,hF.sub ⟨rfl,rfl,rfl,trivial⟩,hO.selT (Ls:=[Blk b5 [VI a0.f0,VI a0.f1,VI a0.f2,VI a0.f3,VI a0.f4,.slice A1 a0.f5.length c2] 37]) [0] 1 rfl rfl rfl⟩
 ·
  refine TC.cond_p rfl h (fun hc112 h=>?_) (fun hc112 h=>?_)
  ·
   refine TC.skip ?_
   exact fun a W hF hO=>⟨decide (a0.f0=2),h,hF.sub ⟨rfl,rfl,rfl,trivial⟩,hO.selT (Ls:=[Blk b5 [VI a0.f0,VI a0.f1,VI a0.f2,VI a0.f3,VI a0.f4,.slice A1 a0.f5.length c2] 37]) [0] 1 rfl rfl rfl⟩
  ·
   refine TC.region ?_
   refine TV rfl rfl rfl (Val.cmp rfl rfl run_eql) ?_
   refine TV rfl rfl rfl (Val.assign rfl) ?_
   refine TL.nil ?_
   exact fun a W hF hO=>⟨decide (a0.f0=5),h,hF.sub ⟨rfl,rfl,rfl,trivial⟩,hO.selT (Ls:=[Blk b5 [VI a0.f0,VI a0.f1,VI a0.f2,VI a0.f3,VI a0.f4,.slice A1 a0.f5.length c2] 37]) [0] 1 rfl rfl rfl⟩
def swageref14_TermUses.f (a0:S40):Option (List Int):=jn (γ:=(List Int)) (fun (x5:Bool)=>(if x5=true then some ([a0.f1]:List Int) else some ([]:List Int))) (fun (j6:(Bool → Option (List Int)))=>(if a0.f0=2 then j6 true else j6 (decide (a0.f0=3))))
def swageref14_TermUses.post (G:Gd)  (r:(List Int)) (v:Value) (G':Gd) (Lr:List Ch):Prop:=G=G'∧∃ (A_1:Option Addr) (c_1:Nat),v=.slice A_1 r.length c_1∧Lr=[Row kI 3 (.slice A_1 r.length c_1) r]
theorem swageref14_TermUses.calls {G:Gd} {r:(List Int)} {a0:S40} (h:swageref14_TermUses.f a0=some r):Fn Try.prog 52 G [] [.agg #[VI a0.f0,VI a0.f1,VI a0.f2,VI a0.f3]] (swageref14_TermUses.post G  r):=by
 refine Fn.intro (e:=[(0,.agg #[VI a0.f0,VI a0.f1,VI a0.f2,VI a0.f3])]) 14 Try.func52 rfl Try.ntmps52 rfl rfl (Nat.le_of_ble_eq_true rfl) (fun L=>?_)
 unfold swageref14_TermUses.f at h
 refine TC.seq ?_
 refine TC.region ?_
 refine TL.cons (TL.box (cs:=[VI a0.f0,VI a0.f1,VI a0.f2,VI a0.f3]) rfl rfl rfl rfl (fun b1=>?_))
 refine TV rfl rfl rfl (Val.assign rfl) ?_
 refine TL.nil ?_
 refine TQ.then_ ?_
 refine TC.seq ?_
 refine TC.seq ?_
 obtain ⟨j6,hj6,h⟩:=jn_no h
 refine TC.tail (fun a W=>∃ (x5:Bool),j6 x5=some r∧Fr 14 a [(1,VP b1 0),(10,.bool x5)]∧Own G (Blk b1 [VI a0.f0,VI a0.f1,VI a0.f2,VI a0.f3] 40::L) W) ?_ ?_
 ·
  rintro a W ⟨x5,h,hF,hO⟩
  rw [hj6] at h
  refine TQ.use ?_ hF hO
  clear hF hO
  refine TQ.then_ ?_
  refine TC.cond_b rfl h (fun hc9 h=>?_) (fun hc9 h=>?_)
  ·
   refine TC.seq ?_
   refine TC.region ?_
   refine TV rfl rfl rfl (Val.fieldAddrB Try.underlying40 rfl fsz3 rfl rfl rfl) ?_
   refine TV rfl rfl rfl (Val.loadB 0 agg3 rfl rfl rfl) ?_
   refine TL.cons (TL.buildSlice (xs:=[.tmp 12]) (vs:=[VI a0.f1]) (cs:=[VI a0.f1]) rfl rfl Try.underlying23 zs3 rfl rfl rfl rfl rfl rfl rfl rfl (fun b10=>?_))
   refine TV rfl rfl rfl (Val.assign rfl) ?_
   refine TL.nil ?_
   refine TQ.then_ ?_
   refine TC.ret ?_
   refine TQ.thenR ?_
   refine TQ.new (Els.nil kI) ?_
   refine TQ.new (El.of (k:=kI) (xv:=a0.f1) (cs:=[VI a0.f1]) (fun W B=>rfl)) ?_
   refine TQ.sel (Ls:=[Els kI [] [],El kI a0.f1 [VI a0.f1],Blk b10 [VI a0.f1] 3,Blk b1 [VI a0.f0,VI a0.f1,VI a0.f2,VI a0.f3] 40]) [1,0,2,3] 4 rfl rfl rfl ?_
   refine TQ.two (ch:=Els kI [a0.f1] [VI a0.f1]) (Els.snoc kI) ?_
   refine TQ.sel (Ls:=[Blk b10 [VI a0.f1] 3,Els kI [a0.f1] [VI a0.f1],Blk b1 [VI a0.f0,VI a0.f1,VI a0.f2,VI a0.f3] 40]) [1,0,2] 3 rfl rfl rfl ?_
   refine TQ.two (ch:=Row kI 3 (.slice (some ⟨b10,0,none⟩) 1 1) ([a0.f1]:List Int)) (Row.lit kI rfl rfl) ?_
   obtain rfl:=Option.some.inj h
   exact TQ.fin (.inl rfl) rfl Try.results52 (.tmp rfl .nil) rfl (FRel.mk (Ls:=[Row kI 3 (.slice (some ⟨b10,0,none⟩) 1 1) ([a0.f1]:List Int)]) [0] 2 (Gd.le.refl _) rfl rfl rfl ⟨rfl,(some ⟨b10,0,none⟩),1,rfl,rfl⟩)
  ·
   refine TC.skip ?_
   refine TQ.then_ ?_
   refine TC.seq ?_
   refine TC.region ?_
   refine TV rfl rfl rfl (Val.assign rfl) ?_
   refine TL.nil ?_
   refine TQ.then_ ?_
   refine TC.ret ?_
   refine TQ.nilRow kI 3 ?_
   obtain rfl:=Option.some.inj h
   exact TQ.fin (.inl rfl) rfl Try.results52 (.tmp rfl .nil) rfl (FRel.mk (Ls:=[Row kI 3 (.slice none 0 0) ([]:List Int)]) [0] 2 (Gd.le.refl _) rfl rfl rfl ⟨rfl,none,0,rfl,rfl⟩)
 ·
  refine TC.region ?_
  refine TV rfl rfl rfl (Val.fieldAddrB Try.underlying40 rfl fsz3 rfl rfl rfl) ?_
  refine TV rfl rfl rfl (Val.loadB 0 agg3 rfl rfl rfl) ?_
  refine TV rfl rfl rfl (Val.cmp rfl rfl run_eql) ?_
  refine TV rfl rfl rfl (Val.move rfl) ?_
  refine TK.split (p:=a0.f0=2) h (fun hg13 h=>?_) (fun hg13 h=>?_)
  ·
   have hk14:decide (a0.f0=2)=true:=decide_eq_true hg13
   refine TL.cons (TL.not (Wt.no rfl rfl rfl hk14) rfl ?_)
   refine TL.cons (TL.not (Wt.no rfl rfl rfl hk14) rfl ?_)
   refine TL.cons (TL.not (Wt.no rfl rfl rfl hk14) rfl ?_)
   refine TV rfl rfl rfl (Val.pickY rfl hk14 rfl) ?_
   refine TL.nil ?_
   exact fun a W hF hO=>⟨true,h,hF.sub ⟨rfl,rfl,trivial⟩,hO.selT (Ls:=[Blk b1 [VI a0.f0,VI a0.f1,VI a0.f2,VI a0.f3] 40]) [0] 1 rfl rfl rfl⟩
  ·
   have hk15:decide (a0.f0=2)=false:=decide_eq_false hg13
   refine TV (Wt.yes rfl rfl rfl hk15) rfl rfl (Val.fieldAddrB Try.underlying40 rfl fsz3 rfl rfl rfl) ?_
   refine TV (Wt.yes rfl rfl rfl hk15) rfl rfl (Val.loadB 0 agg3 rfl rfl rfl) ?_
   refine TV (Wt.yes rfl rfl rfl hk15) rfl rfl (Val.cmp rfl rfl run_eql) ?_
   refine TV rfl rfl rfl (Val.pickN rfl hk15 rfl) ?_
   refine TL.nil ?_
   exact fun a W hF hO=>⟨decide (a0.f0=3),h,hF.sub ⟨rfl,rfl,trivial⟩,hO.selT (Ls:=[Blk b1 [VI a0.f0,VI a0.f1,VI a0.f2,VI a0.f3] 40]) [0] 1 rfl rfl rfl⟩
def swageref14_Regs.l2 (y5258:(List Int)):Nat → Int → Int → Option (Int)
 | 0,_,_=>none
 | n5365 + 1,x5329,x5330=>(if x5330 < (y5258.length:Int) then (at? y5258 x5330).bind fun y5421=>swageref14_Regs.l2 y5258 n5365 (if x5329 < y5421 then y5421 else x5329) (IntKind.i64.wrap (x5330 + 1)) else some x5329)
def swageref14_Regs.l3 (y5581:(List Int)):Nat → Int → Int → Option (Int)
 | 0,_,_=>none
 | n5688 + 1,x5652,x5653=>(if x5653 < (y5581.length:Int) then (at? y5581 x5653).bind fun y5744=>swageref14_Regs.l3 y5581 n5688 (if x5652 < y5744 then y5744 else x5652) (IntKind.i64.wrap (x5653 + 1)) else some x5652)
def swageref14_Regs.l1 (a0:S45) (x1901:Int):Nat → Int → Int → Option (Int)
 | 0,_,_=>none
 | n5037 + 1,x4824,x4825=>(at? a0.f1 x1901).bind fun y5430=>(if x4825 < (y5430.f0.length:Int) then (at? y5430.f0 x4825).bind fun y5566=>(swageref14_Sets.f y5566).bind fun (y5579:Int)=>(swageref14_Uses.f y5566).bind fun (y5581:(List Int))=>(swageref14_Regs.l3 y5581 (y5581.length + 1) (if x4824 < y5579 then y5579 else x4824) 0).bind fun (x5686:Int)=>swageref14_Regs.l1 a0 x1901 n5037 x5686 (IntKind.i64.wrap (x4825 + 1)) else some x4824)
def swageref14_Regs.l0 (a0:S45):Nat → Int → Int → Option (Int)
 | 0,_,_=>none
 | n2850 + 1,x1900,x1901=>(if x1901 < (a0.f1.length:Int) then (swageref14_Regs.l1 a0 x1901 ((at? a0.f1 x1901).elim 0 (fun vy5038=>vy5038.f0.length) + 1) x1900 0).bind fun (x5035:Int)=>(at? a0.f1 x1901).bind fun y5245=>(swageref14_TermUses.f y5245.f1).bind fun (y5258:(List Int))=>(swageref14_Regs.l2 y5258 (y5258.length + 1) x5035 0).bind fun (x5363:Int)=>swageref14_Regs.l0 a0 n2850 x5363 (IntKind.i64.wrap (x1901 + 1)) else some x1900)
def swageref14_Regs.f (a0:S45):Option Int:=(swageref14_Regs.l0 a0 (a0.f1.length + 1) (if a0.f0 < 0 then 0 else a0.f0) 0).bind fun (x2848:Int)=>some x2848
def swageref14_Regs.post (G:Gd)  (r:Int) (v:Value) (G':Gd) (Lr:List Ch):Prop:=G=G'∧v=VI r∧Lr=[]
theorem swageref14_Regs.calls {G:Gd} {r:Int} {a0:S45} {A1:Option Addr} {c2:Nat} (hr3:Rd G k42 A1 a0.f1) (hl4:a0.f1.length ≤ c2) (h:swageref14_Regs.f a0=some r):Fn Try.prog 25 G [] [.agg #[VI a0.f0,.slice A1 a0.f1.length c2]] (swageref14_Regs.post G  r):=by
 refine Fn.intro (e:=[(0,.agg #[VI a0.f0,.slice A1 a0.f1.length c2])]) 85 Try.func25 rfl Try.ntmps25 rfl rfl (Nat.le_of_ble_eq_true rfl) (fun L=>?_)
 unfold swageref14_Regs.f at h
 refine TC.seq ?_
 refine TC.region ?_
 refine TL.cons (TL.box (cs:=[VI a0.f0,.slice A1 a0.f1.length c2]) rfl rfl rfl rfl (fun b5=>?_))
 refine TV rfl rfl rfl (Val.assign rfl) ?_
 refine TL.nil ?_
 refine TQ.then_ ?_
 refine TC.seq ?_
 refine TC.region ?_
 refine TV rfl rfl rfl (Val.fieldAddrB Try.underlying45 rfl fsz3 rfl rfl rfl) ?_
 refine TV rfl rfl rfl (Val.loadB 0 agg3 rfl rfl rfl) ?_
 refine TV rfl rfl rfl (Val.max2 rfl rfl) ?_
 refine TV rfl rfl rfl (Val.assign rfl) ?_
 refine TL.nil ?_
 refine TQ.then_ ?_
 refine TC.seq ?_
 refine TC.seq ?_
 refine TC.region ?_
 refine TV rfl rfl rfl (Val.assign rfl) ?_
 refine TL.nil ?_
 refine TQ.then_ ?_
 obtain ⟨o2849,ho2849,ko2849⟩:=bind_no h
 clear h
 refine TC.tail (fun a W=>∃ (x2848:Int),x2848=o2849∧Fr 85 a [(3,VI x2848)]∧Own G (L) W) ?_ ?_
 ·
  rintro a W ⟨x2848,rfl,hF,hO⟩
  have h:=ko2849
  clear ko2849 ho2849
  refine TQ.use ?_ hF hO
  clear hF hO
  refine TQ.then_ ?_
  refine TC.seq ?_
  refine TC.region ?_
  refine TV rfl rfl rfl (Val.move rfl) ?_
  refine TV rfl rfl rfl (Val.assign rfl) ?_
  refine TL.nil ?_
  refine TQ.then_ ?_
  refine TC.ret ?_
  obtain rfl:=Option.some.inj h
  exact TQ.fin (.inl rfl) rfl Try.results25 (.tmp rfl .nil) rfl (FRel.mk (Ls:=[]) [] 0 (Gd.le.refl _) rfl rfl rfl ⟨rfl,rfl,rfl⟩)
 ·
  refine TC.block ?_
  intro a W hF hO
  have hS:∃ (x1900:Int) (x1901:Int),swageref14_Regs.l0 a0 (a0.f1.length + 1) x1900 x1901=some o2849∧Fr 85 a [(1,VP b5 0),(3,VI x1900),(4,VI x1901)]∧Own G (Blk b5 [VI a0.f0,.slice A1 a0.f1.length c2] 45::L) W:=by
   exact ⟨(if a0.f0 < 0 then 0 else a0.f0),0,ho2849,hF.sub ⟨rfl,rfl,rfl,trivial⟩,hO.selT (Ls:=[Blk b5 [VI a0.f0,.slice A1 a0.f1.length c2] 45]) [0] 1 rfl rfl rfl⟩
  clear hF hO ho2849 ko2849
  refine TC.loop (fun n2850 a W=>∃ (x1900:Int) (x1901:Int),swageref14_Regs.l0 a0 n2850 x1900 x1901=some o2849∧Fr 85 a [(1,VP b5 0),(3,VI x1900),(4,VI x1901)]∧Own G (Blk b5 [VI a0.f0,.slice A1 a0.f1.length c2] 45::L) W) ?_ ?_ hS
  ·
   rintro a W ⟨x1900,x1901,h,hF,hO⟩
   exact none_no h
  ·
   clear hS
   rintro n2850 a W ⟨x1900,x1901,h,hF,hO⟩
   rw [swageref14_Regs.l0] at h
   refine TC.use ?_ hF hO
   clear hF hO
   refine TC.seq ?_
   refine TC.seq ?_
   refine TC.region ?_
   refine TV rfl rfl rfl (Val.move rfl) ?_
   refine TV rfl rfl rfl (Val.fieldAddrB Try.underlying45 rfl fsz43 rfl rfl rfl) ?_
   refine TV rfl rfl rfl (Val.loadB 0 agg43 rfl rfl rfl) ?_
   refine TV rfl rfl rfl (Val.len Try.underlying43 rfl) ?_
   refine TV rfl rfl rfl (Val.cmp rfl rfl run_lss) ?_
   refine TL.nil ?_
   refine TQ.then_ ?_
   refine TC.cond_p rfl h (fun hc3796 h=>?_) (fun hc3796 h=>?_)
   ·
    refine TC.skip ?_
    refine TQ.then_ ?_
    refine TC.seq ?_
    refine TC.block ?_
    refine TC.seq ?_
    refine TC.seq ?_
    refine TC.region ?_
    refine TV rfl rfl rfl (Val.assign rfl) ?_
    refine TL.nil ?_
    refine TQ.then_ ?_
    obtain ⟨o5036,ho5036,ko5036⟩:=bind_no h
    clear h
    refine TC.tail (fun a W=>∃ (x5035:Int),x5035=o5036∧Fr 85 a [(1,VP b5 0),(3,VI x5035),(4,VI x1901)]∧Own G (Blk b5 [VI a0.f0,.slice A1 a0.f1.length c2] 45::L) W) ?_ ?_
    ·
     rintro a W ⟨x5035,rfl,hF,hO⟩
     have h:=ko5036
     clear ko5036 ho5036
     refine TQ.use ?_ hF hO
     clear hF hO
     refine TQ.then_ ?_
     refine TC.seq ?_
     refine TC.region ?_
     refine TV rfl rfl rfl (Val.fieldAddrB Try.underlying45 rfl fsz43 rfl rfl rfl) ?_
     refine TV rfl rfl rfl (Val.loadB 0 agg43 rfl rfl rfl) ?_
     refine TV rfl rfl rfl (Val.move rfl) ?_
     obtain ⟨y5245,hx5246,h⟩:=bind_no h
     obtain ⟨ad5247,cs5253,hA5248,hi5249,hj5250,hcl5251,hK5252⟩:=Rd.at hr3 hx5246
     obtain ⟨A5254,c5255,rfl,hr5256,hl5257⟩:=k42_openR hK5252
     refine TV rfl rfl rfl (Val.indexAddr Try.underlying43 fsz42 rfl hA5248 rfl hi5249 hj5250) ?_
     refine TV rfl rfl rfl (Val.fieldAddrE Try.underlying42 rfl fsz40 rfl rfl) ?_
     refine TV rfl rfl rfl (Val.loadsS (cs:=[VI y5245.f1.f0,VI y5245.f1.f1,VI y5245.f1.f2,VI y5245.f1.f3]) agg40 fsz40 rfl rfl (Cl.sub (off:=1) (n:=4) hcl5251 rfl)) ?_
     obtain ⟨y5258,hy5259,h⟩:=bind_no h
     refine TL.cons (TL.callV (Lin:=[]) (args:=[.agg #[VI y5245.f1.f0,VI y5245.f1.f1,VI y5245.f1.f2,VI y5245.f1.f3]]) rfl rfl rfl hbd52 rfl rfl (swageref14_TermUses.calls (a0:=y5245.f1) hy5259) rfl ?_)
     rintro _ _ _ _ ⟨rfl,A5260,c5261,rfl,rfl⟩
     refine TV rfl rfl rfl (Val.assign rfl) ?_
     refine TL.nil ?_
     refine TQ.then_ ?_
     refine TC.seq ?_
     refine TC.region ?_
     refine TV rfl rfl rfl (Val.assign rfl) ?_
     refine TL.nil ?_
     refine TQ.then_ ?_
     obtain ⟨o5364,ho5364,ko5364⟩:=bind_no h
     clear h
     refine TC.tail (fun a W=>∃ (x5363:Int),x5363=o5364∧Fr 85 a [(1,VP b5 0),(3,VI x5363),(4,VI x1901)]∧Own G (Blk b5 [VI a0.f0,.slice A1 a0.f1.length c2] 45::L) W) ?_ ?_
     ·
      rintro a W ⟨x5363,rfl,hF,hO⟩
      have h:=ko5364
      clear ko5364 ho5364
      refine TQ.use ?_ hF hO
      clear hF hO
      refine TQ.inB ?_
      refine TQ.then_ ?_
      refine TC.region ?_
      refine TV rfl rfl rfl (Val.move rfl) ?_
      refine TV rfl rfl rfl (Val.cmp rfl rfl run_add) ?_
      refine TV rfl rfl rfl (Val.assign rfl) ?_
      refine TL.nil ?_
      exact fun a W hF hO=>⟨x5363,IntKind.i64.wrap (x1901 + 1),h,hF.sub ⟨rfl,rfl,rfl,trivial⟩,hO.selT (Ls:=[Blk b5 [VI a0.f0,.slice A1 a0.f1.length c2] 45]) [0] 1 rfl rfl rfl⟩
     ·
      refine TC.block ?_
      intro a W hF hO
      have hS:∃ (x5329:Int) (x5330:Int),swageref14_Regs.l2 y5258 (y5258.length + 1) x5329 x5330=some o5364∧Fr 85 a [(1,VP b5 0),(3,VI x5329),(4,VI x1901),(8,.slice A5260 y5258.length c5261),(9,VI x5330)]∧Own G (Blk b5 [VI a0.f0,.slice A1 a0.f1.length c2] 45::Row kI 3 (.slice A5260 y5258.length c5261) y5258::L) W:=by
       exact ⟨x5035,0,ho5364,hF.sub ⟨rfl,rfl,rfl,rfl,rfl,trivial⟩,hO.selT (Ls:=[Blk b5 [VI a0.f0,.slice A1 a0.f1.length c2] 45,Row kI 3 (.slice A5260 y5258.length c5261) y5258]) [1,0] 2 rfl rfl rfl⟩
      clear hF hO ho5364 ko5364
      refine TC.loop (fun n5365 a W=>∃ (x5329:Int) (x5330:Int),swageref14_Regs.l2 y5258 n5365 x5329 x5330=some o5364∧Fr 85 a [(1,VP b5 0),(3,VI x5329),(4,VI x1901),(8,.slice A5260 y5258.length c5261),(9,VI x5330)]∧Own G (Blk b5 [VI a0.f0,.slice A1 a0.f1.length c2] 45::Row kI 3 (.slice A5260 y5258.length c5261) y5258::L) W) ?_ ?_ hS
      ·
       rintro a W ⟨x5329,x5330,h,hF,hO⟩
       exact none_no h
      ·
       clear hS
       rintro n5365 a W ⟨x5329,x5330,h,hF,hO⟩
       rw [swageref14_Regs.l2] at h
       refine TC.use ?_ hF hO
       clear hF hO
       refine TC.seq ?_
       refine TC.seq ?_
       refine TC.region ?_
       refine TV rfl rfl rfl (Val.move rfl) ?_
       refine TV rfl rfl rfl (Val.move rfl) ?_
       refine TV rfl rfl rfl (Val.len Try.underlying23 rfl) ?_
       refine TV rfl rfl rfl (Val.cmp rfl rfl run_lss) ?_
       refine TL.nil ?_
       refine TQ.then_ ?_
       refine TC.cond_p rfl h (fun hc5399 h=>?_) (fun hc5399 h=>?_)
       ·
        refine TC.skip ?_
        refine TQ.then_ ?_
        refine TC.seq ?_
        refine TC.block ?_
        refine TC.region ?_
        refine TV rfl rfl rfl (Val.move rfl) ?_
        refine TV rfl rfl rfl (Val.move rfl) ?_
        refine TV rfl rfl rfl (Val.move rfl) ?_
        refine TK.sel (Ls:=[Row kI 3 (.slice A5260 y5258.length c5261) y5258,Blk b5 [VI a0.f0,.slice A1 a0.f1.length c2] 45]) [1,0] 2 rfl rfl rfl ?_
        refine TK.share (fun G5415 e5416 hs5417 hb5418=>?_)
        have rd5419:Rd G5415 kI A5260 y5258:=Rd.row hs5417
        have le5420:y5258.length ≤ c5261:=Row.le hs5417
        obtain ⟨y5421,hx5422,h⟩:=bind_no h
        obtain ⟨ad5423,cs5429,hA5424,hi5425,hj5426,hcl5427,hK5428⟩:=Rd.at rd5419 hx5422
        obtain rfl:=RdK.int hK5428
        refine TV rfl rfl rfl (Val.indexAddr Try.underlying23 fsz3 rfl hA5424 rfl hi5425 hj5426) ?_
        refine TV rfl rfl rfl (Val.loadS agg3 rfl (hcl5427 0 _ rfl)) ?_
        refine TV rfl rfl rfl (Val.max2 rfl rfl) ?_
        refine TV rfl rfl rfl (Val.assign rfl) ?_
        refine TL.nil ?_
        refine TQ.inB ?_
        refine TQ.then_ ?_
        refine TC.region ?_
        refine TV rfl rfl rfl (Val.move rfl) ?_
        refine TV rfl rfl rfl (Val.cmp rfl rfl run_add) ?_
        refine TV rfl rfl rfl (Val.assign rfl) ?_
        refine TL.nil ?_
        refine TQ.back hb5418 ?_
        exact fun a W hF hO=>⟨(if x5329 < y5421 then y5421 else x5329),IntKind.i64.wrap (x5330 + 1),h,hF.sub ⟨rfl,rfl,rfl,rfl,rfl,trivial⟩,hO.selT (Ls:=[Blk b5 [VI a0.f0,.slice A1 a0.f1.length c2] 45,Row kI 3 (.slice A5260 y5258.length c5261) y5258]) [1,0] 2 rfl rfl rfl⟩
       ·
        refine TC.exit ?_
        refine TQ.thenX ?_
        refine TQ.thenX ?_
        refine TQ.inBX ?_
        exact fun a W hF hO=>⟨x5329,Option.some.inj h,hF.sub ⟨rfl,rfl,rfl,trivial⟩,hO.selT (Ls:=[Blk b5 [VI a0.f0,.slice A1 a0.f1.length c2] 45]) [0] 2 rfl rfl rfl⟩
    ·
     refine TC.block ?_
     intro a W hF hO
     have hS:∃ (x4824:Int) (x4825:Int),swageref14_Regs.l1 a0 x1901 ((at? a0.f1 x1901).elim 0 (fun vy5038=>vy5038.f0.length) + 1) x4824 x4825=some o5036∧Fr 85 a [(1,VP b5 0),(3,VI x4824),(4,VI x1901),(5,VI x4825)]∧Own G (Blk b5 [VI a0.f0,.slice A1 a0.f1.length c2] 45::L) W:=by
      exact ⟨x1900,0,ho5036,hF.sub ⟨rfl,rfl,rfl,rfl,trivial⟩,hO.selT (Ls:=[Blk b5 [VI a0.f0,.slice A1 a0.f1.length c2] 45]) [0] 1 rfl rfl rfl⟩
     clear hF hO ho5036 ko5036
     refine TC.loop (fun n5037 a W=>∃ (x4824:Int) (x4825:Int),swageref14_Regs.l1 a0 x1901 n5037 x4824 x4825=some o5036∧Fr 85 a [(1,VP b5 0),(3,VI x4824),(4,VI x1901),(5,VI x4825)]∧Own G (Blk b5 [VI a0.f0,.slice A1 a0.f1.length c2] 45::L) W) ?_ ?_ hS
     ·
      rintro a W ⟨x4824,x4825,h,hF,hO⟩
      exact none_no h
     ·
      clear hS
      rintro n5037 a W ⟨x4824,x4825,h,hF,hO⟩
      rw [swageref14_Regs.l1] at h
      refine TC.use ?_ hF hO
      clear hF hO
      refine TC.seq ?_
      refine TC.seq ?_
      refine TC.region ?_
      refine TV rfl rfl rfl (Val.move rfl) ?_
      refine TV rfl rfl rfl (Val.fieldAddrB Try.underlying45 rfl fsz43 rfl rfl rfl) ?_
      refine TV rfl rfl rfl (Val.loadB 0 agg43 rfl rfl rfl) ?_
      refine TV rfl rfl rfl (Val.move rfl) ?_
      obtain ⟨y5430,hx5431,h⟩:=bind_no h
      obtain ⟨ad5432,cs5438,hA5433,hi5434,hj5435,hcl5436,hK5437⟩:=Rd.at hr3 hx5431
      obtain ⟨A5439,c5440,rfl,hr5441,hl5442⟩:=k42_openR hK5437
      refine TV rfl rfl rfl (Val.indexAddr Try.underlying43 fsz42 rfl hA5433 rfl hi5434 hj5435) ?_
      refine TV rfl rfl rfl (Val.fieldAddrE Try.underlying42 rfl fsz38 rfl rfl) ?_
      refine TV rfl rfl rfl (Val.loadS agg38 rfl (hcl5436 0 _ rfl)) ?_
      refine TV rfl rfl rfl (Val.len Try.underlying38 rfl) ?_
      refine TV rfl rfl rfl (Val.cmp rfl rfl run_lss) ?_
      refine TL.nil ?_
      refine TQ.then_ ?_
      refine TC.cond_p rfl h (fun hc5444 h=>?_) (fun hc5444 h=>?_)
      ·
       refine TC.skip ?_
       refine TQ.then_ ?_
       refine TC.seq ?_
       refine TC.block ?_
       refine TC.seq ?_
       refine TC.region ?_
       refine TV rfl rfl rfl (Val.move rfl) ?_
       refine TV rfl rfl rfl (Val.fieldAddrB Try.underlying45 rfl fsz43 rfl rfl rfl) ?_
       refine TV rfl rfl rfl (Val.loadB 0 agg43 rfl rfl rfl) ?_
       refine TV rfl rfl rfl (Val.move rfl) ?_
       refine TV rfl rfl rfl (Val.indexAddr Try.underlying43 fsz42 rfl hA5433 rfl hi5434 hj5435) ?_
       refine TV rfl rfl rfl (Val.fieldAddrE Try.underlying42 rfl fsz38 rfl rfl) ?_
       refine TV rfl rfl rfl (Val.loadS agg38 rfl (hcl5436 0 _ rfl)) ?_
       refine TV rfl rfl rfl (Val.move rfl) ?_
       obtain ⟨y5566,hx5567,h⟩:=bind_no h
       obtain ⟨ad5568,cs5574,hA5569,hi5570,hj5571,hcl5572,hK5573⟩:=Rd.at hr5441 hx5567
       obtain ⟨A5575,c5576,rfl,hr5577,hl5578⟩:=k37_openR hK5573
       refine TV rfl rfl rfl (Val.indexAddr Try.underlying38 fsz37 rfl hA5569 rfl hi5570 hj5571) ?_
       refine TV rfl rfl rfl (Val.loadsS (cs:=[VI y5566.f0,VI y5566.f1,VI y5566.f2,VI y5566.f3,VI y5566.f4,.slice A5575 y5566.f5.length c5576]) agg37 fsz37 rfl rfl (Cl.sub (off:=0) (n:=6) hcl5572 rfl)) ?_
       obtain ⟨y5579,hy5580,h⟩:=bind_no h
       refine TL.cons (TL.callV (Lin:=[]) (args:=[.agg #[VI y5566.f0,VI y5566.f1,VI y5566.f2,VI y5566.f3,VI y5566.f4,.slice A5575 y5566.f5.length c5576]]) rfl rfl rfl hbd50 rfl rfl (swageref14_Sets.calls (a0:=y5566) hr5577 hl5578 hy5580) rfl ?_)
       rintro _ _ _ _ ⟨rfl,rfl,rfl⟩
       refine TV rfl rfl rfl (Val.max2 rfl rfl) ?_
       refine TV rfl rfl rfl (Val.assign rfl) ?_
       refine TL.nil ?_
       refine TQ.then_ ?_
       refine TC.seq ?_
       refine TC.region ?_
       refine TV rfl rfl rfl (Val.fieldAddrB Try.underlying45 rfl fsz43 rfl rfl rfl) ?_
       refine TV rfl rfl rfl (Val.loadB 0 agg43 rfl rfl rfl) ?_
       refine TV rfl rfl rfl (Val.move rfl) ?_
       refine TV rfl rfl rfl (Val.indexAddr Try.underlying43 fsz42 rfl hA5433 rfl hi5434 hj5435) ?_
       refine TV rfl rfl rfl (Val.fieldAddrE Try.underlying42 rfl fsz38 rfl rfl) ?_
       refine TV rfl rfl rfl (Val.loadS agg38 rfl (hcl5436 0 _ rfl)) ?_
       refine TV rfl rfl rfl (Val.move rfl) ?_
       refine TV rfl rfl rfl (Val.indexAddr Try.underlying38 fsz37 rfl hA5569 rfl hi5570 hj5571) ?_
       refine TV rfl rfl rfl (Val.loadsS (cs:=[VI y5566.f0,VI y5566.f1,VI y5566.f2,VI y5566.f3,VI y5566.f4,.slice A5575 y5566.f5.length c5576]) agg37 fsz37 rfl rfl (Cl.sub (off:=0) (n:=6) hcl5572 rfl)) ?_
       obtain ⟨y5581,hy5582,h⟩:=bind_no h
       refine TL.cons (TL.callV (Lin:=[]) (args:=[.agg #[VI y5566.f0,VI y5566.f1,VI y5566.f2,VI y5566.f3,VI y5566.f4,.slice A5575 y5566.f5.length c5576]]) rfl rfl rfl hbd51 rfl rfl (swageref14_Uses.calls (a0:=y5566) hr5577 hl5578 hy5582) rfl ?_)
       rintro _ _ _ _ ⟨rfl,A5583,c5584,rfl,rfl⟩
       refine TV rfl rfl rfl (Val.assign rfl) ?_
       refine TL.nil ?_
       refine TQ.then_ ?_
       refine TC.seq ?_
       refine TC.region ?_
       refine TV rfl rfl rfl (Val.assign rfl) ?_
       refine TL.nil ?_
       refine TQ.then_ ?_
       obtain ⟨o5687,ho5687,ko5687⟩:=bind_no h
       clear h
       refine TC.tail (fun a W=>∃ (x5686:Int),x5686=o5687∧Fr 85 a [(1,VP b5 0),(3,VI x5686),(4,VI x1901),(5,VI x4825)]∧Own G (Blk b5 [VI a0.f0,.slice A1 a0.f1.length c2] 45::L) W) ?_ ?_
       ·
        rintro a W ⟨x5686,rfl,hF,hO⟩
        have h:=ko5687
        clear ko5687 ho5687
        refine TQ.use ?_ hF hO
        clear hF hO
        refine TQ.inB ?_
        refine TQ.then_ ?_
        refine TC.region ?_
        refine TV rfl rfl rfl (Val.move rfl) ?_
        refine TV rfl rfl rfl (Val.cmp rfl rfl run_add) ?_
        refine TV rfl rfl rfl (Val.assign rfl) ?_
        refine TL.nil ?_
        exact fun a W hF hO=>⟨x5686,IntKind.i64.wrap (x4825 + 1),h,hF.sub ⟨rfl,rfl,rfl,rfl,trivial⟩,hO.selT (Ls:=[Blk b5 [VI a0.f0,.slice A1 a0.f1.length c2] 45]) [0] 1 rfl rfl rfl⟩
       ·
        refine TC.block ?_
        intro a W hF hO
        have hS:∃ (x5652:Int) (x5653:Int),swageref14_Regs.l3 y5581 (y5581.length + 1) x5652 x5653=some o5687∧Fr 85 a [(1,VP b5 0),(3,VI x5652),(4,VI x1901),(5,VI x4825),(6,.slice A5583 y5581.length c5584),(7,VI x5653)]∧Own G (Blk b5 [VI a0.f0,.slice A1 a0.f1.length c2] 45::Row kI 3 (.slice A5583 y5581.length c5584) y5581::L) W:=by
         exact ⟨(if x4824 < y5579 then y5579 else x4824),0,ho5687,hF.sub ⟨rfl,rfl,rfl,rfl,rfl,rfl,trivial⟩,hO.selT (Ls:=[Blk b5 [VI a0.f0,.slice A1 a0.f1.length c2] 45,Row kI 3 (.slice A5583 y5581.length c5584) y5581]) [1,0] 2 rfl rfl rfl⟩
        clear hF hO ho5687 ko5687
        refine TC.loop (fun n5688 a W=>∃ (x5652:Int) (x5653:Int),swageref14_Regs.l3 y5581 n5688 x5652 x5653=some o5687∧Fr 85 a [(1,VP b5 0),(3,VI x5652),(4,VI x1901),(5,VI x4825),(6,.slice A5583 y5581.length c5584),(7,VI x5653)]∧Own G (Blk b5 [VI a0.f0,.slice A1 a0.f1.length c2] 45::Row kI 3 (.slice A5583 y5581.length c5584) y5581::L) W) ?_ ?_ hS
        ·
         rintro a W ⟨x5652,x5653,h,hF,hO⟩
         exact none_no h
        ·
         clear hS
         rintro n5688 a W ⟨x5652,x5653,h,hF,hO⟩
         rw [swageref14_Regs.l3] at h
         refine TC.use ?_ hF hO
         clear hF hO
         refine TC.seq ?_
         refine TC.seq ?_
         refine TC.region ?_
         refine TV rfl rfl rfl (Val.move rfl) ?_
         refine TV rfl rfl rfl (Val.move rfl) ?_
         refine TV rfl rfl rfl (Val.len Try.underlying23 rfl) ?_
         refine TV rfl rfl rfl (Val.cmp rfl rfl run_lss) ?_
         refine TL.nil ?_
         refine TQ.then_ ?_
         refine TC.cond_p rfl h (fun hc5722 h=>?_) (fun hc5722 h=>?_)
         ·
          refine TC.skip ?_
          refine TQ.then_ ?_
          refine TC.seq ?_
          refine TC.block ?_
          refine TC.region ?_
          refine TV rfl rfl rfl (Val.move rfl) ?_
          refine TV rfl rfl rfl (Val.move rfl) ?_
          refine TV rfl rfl rfl (Val.move rfl) ?_
          refine TK.sel (Ls:=[Row kI 3 (.slice A5583 y5581.length c5584) y5581,Blk b5 [VI a0.f0,.slice A1 a0.f1.length c2] 45]) [1,0] 2 rfl rfl rfl ?_
          refine TK.share (fun G5738 e5739 hs5740 hb5741=>?_)
          have rd5742:Rd G5738 kI A5583 y5581:=Rd.row hs5740
          have le5743:y5581.length ≤ c5584:=Row.le hs5740
          obtain ⟨y5744,hx5745,h⟩:=bind_no h
          obtain ⟨ad5746,cs5752,hA5747,hi5748,hj5749,hcl5750,hK5751⟩:=Rd.at rd5742 hx5745
          obtain rfl:=RdK.int hK5751
          refine TV rfl rfl rfl (Val.indexAddr Try.underlying23 fsz3 rfl hA5747 rfl hi5748 hj5749) ?_
          refine TV rfl rfl rfl (Val.loadS agg3 rfl (hcl5750 0 _ rfl)) ?_
          refine TV rfl rfl rfl (Val.max2 rfl rfl) ?_
          refine TV rfl rfl rfl (Val.assign rfl) ?_
          refine TL.nil ?_
          refine TQ.inB ?_
          refine TQ.then_ ?_
          refine TC.region ?_
          refine TV rfl rfl rfl (Val.move rfl) ?_
          refine TV rfl rfl rfl (Val.cmp rfl rfl run_add) ?_
          refine TV rfl rfl rfl (Val.assign rfl) ?_
          refine TL.nil ?_
          refine TQ.back hb5741 ?_
          exact fun a W hF hO=>⟨(if x5652 < y5744 then y5744 else x5652),IntKind.i64.wrap (x5653 + 1),h,hF.sub ⟨rfl,rfl,rfl,rfl,rfl,rfl,trivial⟩,hO.selT (Ls:=[Blk b5 [VI a0.f0,.slice A1 a0.f1.length c2] 45,Row kI 3 (.slice A5583 y5581.length c5584) y5581]) [1,0] 2 rfl rfl rfl⟩
         ·
          refine TC.exit ?_
          refine TQ.thenX ?_
          refine TQ.thenX ?_
          refine TQ.inBX ?_
          exact fun a W hF hO=>⟨x5652,Option.some.inj h,hF.sub ⟨rfl,rfl,rfl,rfl,trivial⟩,hO.selT (Ls:=[Blk b5 [VI a0.f0,.slice A1 a0.f1.length c2] 45]) [0] 2 rfl rfl rfl⟩
      ·
       refine TC.exit ?_
       refine TQ.thenX ?_
       refine TQ.thenX ?_
       refine TQ.inBX ?_
       exact fun a W hF hO=>⟨x4824,Option.some.inj h,hF.sub ⟨rfl,rfl,rfl,trivial⟩,hO.selT (Ls:=[Blk b5 [VI a0.f0,.slice A1 a0.f1.length c2] 45]) [0] 1 rfl rfl rfl⟩
   ·
    refine TC.exit ?_
    refine TQ.thenX ?_
    refine TQ.thenX ?_
    refine TQ.inBX ?_
    exact fun a W hF hO=>⟨x1900,Option.some.inj h,hF.sub ⟨rfl,trivial⟩,hO.selT (Ls:=[]) [] 1 rfl rfl rfl⟩
def swagelaw15_Few.l0 (a0:(List S45)):Nat → Int → Option (Sum Bool (Unit))
 | 0,_=>none
 | n212 + 1,x142=>jn (γ:=(Sum Bool (Unit))) (fun (x284:Bool)=>(if x284=true then (at? a0 x142).bind fun y317=>(swagelaw14_Few.f y317).bind fun (y330:Bool)=>jn (γ:=(Sum Bool (Unit))) (fun (x337:Bool)=>(if x337=true then some (.inl false) else swagelaw15_Few.l0 a0 n212 (IntKind.i64.wrap (x142 + 1)))) (fun (j338:(Bool → Option (Sum Bool (Unit))))=>(if (!y330)=true then j338 true else (swageref14_Regs.f y317).bind fun (y344:Int)=>j338 (decide (60 < y344)))) else some (.inr ()))) (fun (j285:(Bool → Option (Sum Bool (Unit))))=>(if x142 < (a0.length:Int) then j285 (decide (x142 < 20)) else j285 false))
def swagelaw15_Few.f (a0:(List S45)):Option Bool:=(swagelaw15_Few.l0 a0 (a0.length + 1) 0).bind fun | .inl q_=>some q_ | .inr _=>(some (decide ((a0.length:Int) ≤ 8)))
def swagelaw15_Few.post (G:Gd)  (r:Bool) (v:Value) (G':Gd) (Lr:List Ch):Prop:=G=G'∧v=.bool r∧Lr=[]
theorem swagelaw15_Few.calls {G:Gd} {r:Bool} {a0:(List S45)} {A1:Option Addr} {c2:Nat} (hr3:Rd G k45 A1 a0) (hl4:a0.length ≤ c2) (h:swagelaw15_Few.f a0=some r):Fn Try.prog 10 G [] [.slice A1 a0.length c2] (swagelaw15_Few.post G  r):=by
 refine Fn.intro (e:=[(0,.slice A1 a0.length c2)]) 33 Try.func10 rfl Try.ntmps10 rfl rfl (Nat.le_of_ble_eq_true rfl) (fun L=>?_)
 unfold swagelaw15_Few.f at h
 refine TC.seq ?_
 refine TC.region ?_
 refine TV rfl rfl rfl (Val.assign rfl) ?_
 refine TL.nil ?_
 refine TQ.then_ ?_
 refine TC.seq ?_
 refine TC.seq ?_
 refine TC.region ?_
 refine TV rfl rfl rfl (Val.assign rfl) ?_
 refine TL.nil ?_
 refine TQ.then_ ?_
 obtain ⟨o211,ho211,ko211⟩:=bind_no h
 clear h
 refine TC.tail (fun a W=>(.inr ())=o211∧Fr 33 a [(0,.slice A1 a0.length c2)]∧Own G (L) W) ?_ ?_
 ·
  rintro a W ⟨rfl,hF,hO⟩
  have h:=ko211
  clear ko211 ho211
  refine TQ.use ?_ hF hO
  clear hF hO
  refine TQ.then_ ?_
  refine TC.seq ?_
  refine TC.region ?_
  refine TV rfl rfl rfl (Val.move rfl) ?_
  refine TV rfl rfl rfl (Val.len Try.underlying22 rfl) ?_
  refine TV rfl rfl rfl (Val.cmp rfl rfl run_leq) ?_
  refine TV rfl rfl rfl (Val.assign rfl) ?_
  refine TL.nil ?_
  refine TQ.then_ ?_
  refine TC.ret ?_
  obtain rfl:=Option.some.inj h
  exact TQ.fin (.inl rfl) rfl Try.results10 (.tmp rfl .nil) rfl (FRel.mk (Ls:=[]) [] 0 (Gd.le.refl _) rfl rfl rfl ⟨rfl,rfl,rfl⟩)
 ·
  refine TC.block ?_
  intro a W hF hO
  have hS:∃ (x142:Int),swagelaw15_Few.l0 a0 (a0.length + 1) x142=some o211∧Fr 33 a [(0,.slice A1 a0.length c2),(3,VI x142)]∧Own G (L) W:=by
   exact ⟨0,ho211,hF.sub ⟨rfl,rfl,trivial⟩,hO.selT (Ls:=[]) [] 0 rfl rfl rfl⟩
  clear hF hO ho211
  refine TC.loop (fun n212 a W=>∃ (x142:Int),swagelaw15_Few.l0 a0 n212 x142=some o211∧Fr 33 a [(0,.slice A1 a0.length c2),(3,VI x142)]∧Own G (L) W) ?_ ?_ hS
  ·
   rintro a W ⟨x142,h,hF,hO⟩
   exact none_no h
  ·
   clear hS
   rintro n212 a W ⟨x142,h,hF,hO⟩
   rw [swagelaw15_Few.l0] at h
   refine TC.use ?_ hF hO
   clear hF hO
   refine TC.seq ?_
   refine TC.seq ?_
   obtain ⟨j285,hj285,h⟩:=jn_no h
   refine TC.tail (fun a W=>∃ (x284:Bool),j285 x284=some o211∧Fr 33 a [(0,.slice A1 a0.length c2),(3,VI x142),(12,.bool x284)]∧Own G (L) W) ?_ ?_
   ·
    rintro a W ⟨x284,h,hF,hO⟩
    rw [hj285] at h
    refine TQ.use ?_ hF hO
    clear hF hO
    refine TQ.then_ ?_
    refine TC.cond_b rfl h (fun hc287 h=>?_) (fun hc287 h=>?_)
    ·
     refine TC.skip ?_
     refine TQ.then_ ?_
     refine TC.seq ?_
     refine TC.block ?_
     refine TC.seq ?_
     refine TC.region ?_
     refine TV rfl rfl rfl (Val.move rfl) ?_
     refine TV rfl rfl rfl (Val.move rfl) ?_
     obtain ⟨y317,hx318,h⟩:=bind_no h
     obtain ⟨ad319,cs325,hA320,hi321,hj322,hcl323,hK324⟩:=Rd.at hr3 hx318
     obtain ⟨A326,c327,rfl,hr328,hl329⟩:=k45_openR hK324
     refine TV rfl rfl rfl (Val.indexAddr Try.underlying22 fsz45 rfl hA320 rfl hi321 hj322) ?_
     refine TV rfl rfl rfl (Val.loadsS (cs:=[VI y317.f0,.slice A326 y317.f1.length c327]) agg45 fsz45 rfl rfl (Cl.sub (off:=0) (n:=2) hcl323 rfl)) ?_
     obtain ⟨y330,hy331,h⟩:=bind_no h
     refine TL.cons (TL.callV (Lin:=[]) (args:=[.agg #[VI y317.f0,.slice A326 y317.f1.length c327]]) rfl rfl rfl hbd24 rfl rfl (swagelaw14_Few.calls (a0:=y317) hr328 hl329 hy331) rfl ?_)
     rintro _ _ _ _ ⟨rfl,rfl,rfl⟩
     refine TV rfl rfl rfl (Val.assign rfl) ?_
     refine TL.nil ?_
     refine TQ.then_ ?_
     refine TC.seq ?_
     obtain ⟨j338,hj338,h⟩:=jn_no h
     refine TC.tail (fun a W=>∃ (x337:Bool),j338 x337=some o211∧Fr 33 a [(0,.slice A1 a0.length c2),(3,VI x142),(29,.bool x337)]∧Own G (L) W) ?_ ?_
     ·
      rintro a W ⟨x337,h,hF,hO⟩
      rw [hj338] at h
      refine TQ.use ?_ hF hO
      clear hF hO
      refine TQ.then_ ?_
      refine TC.cond_b rfl h (fun hc340 h=>?_) (fun hc340 h=>?_)
      ·
       refine TC.seq ?_
       refine TC.region ?_
       refine TV rfl rfl rfl (Val.assign rfl) ?_
       refine TL.nil ?_
       refine TQ.then_ ?_
       refine TC.ret ?_
       refine TQ.inBR ?_
       refine TQ.thenR ?_
       refine TQ.thenR ?_
       refine TQ.inBR ?_
       refine TQ.thenR ?_
       refine TQ.thenR ?_
       obtain rfl:=Option.some.inj h
       have h:=ko211
       obtain rfl:=Option.some.inj h
       exact TQ.fin (.inl rfl) rfl Try.results10 (.tmp rfl .nil) rfl (FRel.mk (Ls:=[]) [] 0 (Gd.le.refl _) rfl rfl rfl ⟨rfl,rfl,rfl⟩)
      ·
       refine TC.skip ?_
       refine TQ.inB ?_
       refine TQ.then_ ?_
       refine TC.region ?_
       refine TV rfl rfl rfl (Val.move rfl) ?_
       refine TV rfl rfl rfl (Val.cmp rfl rfl run_add) ?_
       refine TV rfl rfl rfl (Val.assign rfl) ?_
       refine TL.nil ?_
       exact fun a W hF hO=>⟨IntKind.i64.wrap (x142 + 1),h,hF.sub ⟨rfl,rfl,trivial⟩,hO.selT (Ls:=[]) [] 0 rfl rfl rfl⟩
     ·
      refine TC.region ?_
      refine TV rfl rfl rfl (Val.move rfl) ?_
      refine TV rfl rfl rfl (Val.not_ rfl) ?_
      refine TV rfl rfl rfl (Val.move rfl) ?_
      refine TK.split (p:=(!y330)=true) h (fun hg341 h=>?_) (fun hg341 h=>?_)
      ·
       have hk342:(!y330)=true:=hg341
       refine TL.cons (TL.not (Wt.no rfl rfl rfl hk342) rfl ?_)
       refine TL.cons (TL.not (Wt.no rfl rfl rfl hk342) rfl ?_)
       refine TL.cons (TL.not (Wt.no rfl rfl rfl hk342) rfl ?_)
       refine TL.cons (TL.not (Wt.no rfl rfl rfl hk342) rfl ?_)
       refine TL.cons (TL.not (Wt.no rfl rfl rfl hk342) rfl ?_)
       refine TL.cons (TL.not (Wt.no rfl rfl rfl hk342) rfl ?_)
       refine TV rfl rfl rfl (Val.pickY rfl hk342 rfl) ?_
       refine TL.nil ?_
       exact fun a W hF hO=>⟨true,h,hF.sub ⟨rfl,rfl,rfl,trivial⟩,hO.selT (Ls:=[]) [] 0 rfl rfl rfl⟩
      ·
       have hk343:(!y330)=false:=(by simpa using hg341)
       refine TV (Wt.yes rfl rfl rfl hk343) rfl rfl (Val.move rfl) ?_
       refine TV (Wt.yes rfl rfl rfl hk343) rfl rfl (Val.move rfl) ?_
       refine TV (Wt.yes rfl rfl rfl hk343) rfl rfl (Val.indexAddr Try.underlying22 fsz45 rfl hA320 rfl hi321 hj322) ?_
       refine TV (Wt.yes rfl rfl rfl hk343) rfl rfl (Val.loadsS (cs:=[VI y317.f0,.slice A326 y317.f1.length c327]) agg45 fsz45 rfl rfl (Cl.sub (off:=0) (n:=2) hcl323 rfl)) ?_
       obtain ⟨y344,hy345,h⟩:=bind_no h
       refine TL.cons (TL.callV (Lin:=[]) (args:=[.agg #[VI y317.f0,.slice A326 y317.f1.length c327]]) (Wt.yes rfl rfl rfl hk343) rfl rfl hbd25 rfl rfl (swageref14_Regs.calls (a0:=y317) hr328 hl329 hy345) rfl ?_)
       rintro _ _ _ _ ⟨rfl,rfl,rfl⟩
       refine TV (Wt.yes rfl rfl rfl hk343) rfl rfl (Val.cmp rfl rfl run_gtr) ?_
       refine TV rfl rfl rfl (Val.pickN rfl hk343 rfl) ?_
       refine TL.nil ?_
       exact fun a W hF hO=>⟨decide (60 < y344),h,hF.sub ⟨rfl,rfl,rfl,trivial⟩,hO.selT (Ls:=[]) [] 0 rfl rfl rfl⟩
    ·
     refine TC.exit ?_
     refine TQ.thenX ?_
     refine TQ.thenX ?_
     refine TQ.inBX ?_
     exact fun a W hF hO=>⟨Option.some.inj h,hF.sub ⟨rfl,trivial⟩,hO.selT (Ls:=[]) [] 0 rfl rfl rfl⟩
   ·
    refine TC.region ?_
    refine TV rfl rfl rfl (Val.move rfl) ?_
    refine TV rfl rfl rfl (Val.move rfl) ?_
    refine TV rfl rfl rfl (Val.len Try.underlying22 rfl) ?_
    refine TV rfl rfl rfl (Val.cmp rfl rfl run_lss) ?_
    refine TV rfl rfl rfl (Val.move rfl) ?_
    refine TK.split (p:=x142 < (a0.length:Int)) h (fun hg346 h=>?_) (fun hg346 h=>?_)
    ·
     have hk347:decide (x142 < (a0.length:Int))=true:=decide_eq_true hg346
     refine TV (Wt.yes rfl rfl rfl hk347) rfl rfl (Val.move rfl) ?_
     refine TV (Wt.yes rfl rfl rfl hk347) rfl rfl (Val.cmp rfl rfl run_lss) ?_
     refine TV rfl rfl rfl (Val.pickY rfl hk347 rfl) ?_
     refine TL.nil ?_
     exact fun a W hF hO=>⟨decide (x142 < 20),h,hF.sub ⟨rfl,rfl,rfl,trivial⟩,hO.selT (Ls:=[]) [] 0 rfl rfl rfl⟩
    ·
     have hk348:decide (x142 < (a0.length:Int))=false:=decide_eq_false hg346
     refine TL.cons (TL.not (Wt.no rfl rfl rfl hk348) rfl ?_)
     refine TL.cons (TL.not (Wt.no rfl rfl rfl hk348) rfl ?_)
     refine TV rfl rfl rfl (Val.pickN rfl hk348 rfl) ?_
     refine TL.nil ?_
     exact fun a W hF hO=>⟨false,h,hF.sub ⟨rfl,rfl,rfl,trivial⟩,hO.selT (Ls:=[]) [] 0 rfl rfl rfl⟩
end Go.Proofs.Ytfmocegnpmomnaa.Sy
set_option linter.unusedVariables false
set_option linter.unusedSimpArgs false
namespace Go.Proofs.Ytfmocegnpmomnaa.Sy
open Go Go.RowKit Go.Proofs.YtfmocegnpmomnaaW.PrintWords Go.Proofs.Ytfmocegnpmomnaa.SyO
/-- What a runner holds: cells, the heap's end, input, fuel, depth, what was printed, counts. -/
structure Ts where
  m : List Int
  h : Int
  i : List Int
  f : Int
  d : Int
  o : List Int
  ld : Int
  st : Int
  c : Int
abbrev Cf (n : Nat) (l : List S45) (fl : Int) (s : Ts) (a : S45) (us : List Int) := (trace_runner_call.fix n).1 l s.m s.h fl s.i s.f s.d s.o 0 s.ld s.st s.c a us
abbrev Bf (n : Nat) (l : List S45) (fl : Int) (s : Ts) (b : S42) (r : List Int) := (trace_runner_call.fix n).2.1 l s.m s.h fl s.i s.f s.d s.o 0 s.ld s.st s.c b r
abbrev Vf (n : Nat) (l : List S45) (fl : Int) (s : Ts) (o : S37) (r : List Int) := (trace_runner_call.fix n).2.2 l s.m s.h fl s.i s.f s.d s.o 0 s.ld s.st s.c o r
abbrev tv (v e : Int) (s : Ts) : Int × Int × List Int × Int × List Int × Int × Int × List Int × Int × Int × Int := (v, e, s.m, s.h, s.i, s.f, s.d, s.o, s.ld, s.st, s.c)
abbrev tb (e : Int) (s : Ts) (r : List Int) : Int × List Int × Int × List Int × Int × Int × List Int × Int × Int × Int × List Int := (e, s.m, s.h, s.i, s.f, s.d, s.o, s.ld, s.st, s.c, r)
/-- What holds at all times. -/
structure Iv (B fl : Int) (s : Ts) : Prop where
  f0 : 0 ≤ s.f
  d0 : 0 ≤ s.d
  d1 : s.d ≤ 1000
  ml : (s.m.length : Int) = fl
  h1 : 1 ≤ s.h
  h2 : s.h ≤ fl
  fl1 : fl ≤ 1048576
  c : s.c = s.h - 1
  ld0 : 0 ≤ s.ld
  st0 : 0 ≤ s.st
  pot : (s.o.length : Int) + s.ld + s.st + s.f ≤ B
/-- How a run goes on. -/
structure Gs (k : Int) (s s' : Ts) : Prop where
  d : s'.d = s.d
  f : s'.f ≤ s.f
  o : ∃ t, s'.o = s.o ++ t
  ld : s.ld ≤ s'.ld
  st : s.st ≤ s'.st
  pot : (s'.o.length : Int) + s'.ld + s'.st + s'.f ≤ (s.o.length : Int) + s.ld + s.st + s.f + k
theorem Gs.refl (s : Ts) {k : Int} (h : 0 ≤ k) : Gs k s s := ⟨rfl, Int.le_refl _, ⟨[], by simp⟩, Int.le_refl _, Int.le_refl _, by omega⟩
theorem Gs.trans {k k' : Int} {a b c : Ts} (h : Gs k a b) (g : Gs k' b c) : Gs (k + k') a c := by
  obtain ⟨t, ht⟩ := h.o
  obtain ⟨u, hu⟩ := g.o
  exact ⟨g.d.trans h.d, Int.le_trans g.f h.f, ⟨t ++ u, by rw [hu, ht, List.append_assoc]⟩, Int.le_trans h.ld g.ld, Int.le_trans h.st g.st, by have := h.pot; have := g.pot; omega⟩
theorem at_mem {α : Type} {l : List α} {i : Int} {y : α} (h : at? l i = some y) : y ∈ l := by
  unfold at? at h
  split at h
  · exact List.mem_of_getElem? h
  · cases h
theorem at_ok {α : Type} {r : List α} {i : Int} (h0 : 0 ≤ i) (h1 : i < (r.length : Int)) : ∃ y, at? r i = some y := by
  unfold at?
  have : i.toNat < r.length := by omega
  exact ⟨r[i.toNat], by rw [if_pos h0, List.getElem?_eq_getElem this]⟩
/-- What an operation names. -/
structure Oc (l : List S45) (o : S37) : Prop where
  call : o.f0 = 7 → ∃ g, at? l o.f4 = some g ∧ (o.f5.length : Int) = g.f0
  new : o.f0 = 6 → 0 ≤ o.f4 ∧ o.f4 ≤ 1048576
structure Wp (l : List S45) : Prop where
  fn : ∀ t ∈ l, ∃ z : Nat, Fz z t
  op : ∀ t ∈ l, ∀ y ∈ t.f1, y.f0.length ≤ 250 ∧ ∀ o ∈ y.f0, Oc l o
def CallP (l : List S45) (fl : Int) (n : Nat) : Prop := ∀ B s t us, Iv B fl s → B ≤ 90000 → t ∈ l → (us.length : Int) = t.f0 → 3 * (1000 - s.d) + 1 ≤ (n : Int) → ∃ v e s', Cf n l fl s t us = some (tv v e s') ∧ Iv B fl s' ∧ Gs 0 s s'
def BlockP (l : List S45) (fl : Int) (n : Nat) : Prop := ∀ B s (z : Nat) b r, Iv B fl s → B ≤ 90000 → b.f0.length ≤ 250 → (∀ o ∈ b.f0, Oz z o ∧ Oc l o) → r.length = z + 1 → 3 * (1000 - s.d) + 3 ≤ (n : Int) → ∃ e s' r', Bf n l fl s b r = some (tb e s' r') ∧ Iv B fl s' ∧ Gs 0 s s' ∧ r'.length = z + 1 ∧ (e = 0 → s'.f < s.f)
def ValueP (l : List S45) (fl : Int) (n : Nat) : Prop := ∀ B s (z : Nat) o r, Iv B fl s → B ≤ 90000 → Oz z o → Oc l o → r.length = z + 1 → 3 * (1000 - s.d) + 2 ≤ (n : Int) → ∃ v e s', Vf n l fl s o r = some (tv v e s') ∧ Iv (B + 1) fl s' ∧ Gs 1 s s'
theorem there_f {m : List Int} {h fl a : Int} (hm : (m.length : Int) = fl) (h2 : h ≤ fl) : ∃ b, memory_Memory_there.f m h fl a = some b ∧ (b = true → 1 ≤ a ∧ a < h) := by
  unfold memory_Memory_there.f
  by_cases h1 : 1 ≤ a
  · rw [if_pos h1]
    by_cases h3 : a < h
    · rw [if_pos h3]; exact ⟨true, rfl, fun _ => ⟨h1, h3⟩⟩
    · rw [if_neg h3]
      by_cases h4 : fl ≤ a
      · rw [if_pos h4]; exact ⟨_, rfl, fun hb => by have := of_decide_eq_true hb; omega⟩
      · rw [if_neg h4]; exact ⟨false, rfl, fun hb => by cases hb⟩
  · rw [if_neg h1]
    by_cases h4 : fl ≤ a
    · rw [if_pos h4]; exact ⟨_, rfl, fun hb => by have := of_decide_eq_true hb; omega⟩
    · rw [if_neg h4]; exact ⟨false, rfl, fun hb => by cases hb⟩
theorem Iv.up {B fl : Int} {s : Ts} (h : Iv B fl s) : Iv (B + 1) fl s := { h with pot := by have := h.pot; omega }
theorem load_f {B fl : Int} {s : Ts} (h : Iv B fl s) (a : Int) : ∃ v e, memory_Memory_Load.f s.m s.h fl a = some (v, e) := by
  obtain ⟨b, h1, h2⟩ := there_f (a := a) h.ml h.h2
  unfold memory_Memory_Load.f
  rw [h1, Option.bind_some]
  cases b with
  | false => exact ⟨0, 7, by simp⟩
  | true =>
    obtain ⟨y, hy⟩ := at_ok (r := s.m) (i := a) (by have := h2 rfl; omega) (by have := h2 rfl; have := h.ml; have := h.h2; omega)
    exact ⟨y, 0, by simp [hy]⟩
theorem store_f {B fl : Int} {s : Ts} (h : Iv B fl s) (a v : Int) : ∃ e m', memory_Memory_Store.f s.m s.h fl a v = some (e, m') ∧ m'.length = s.m.length := by
  obtain ⟨b, h1, h2⟩ := there_f (a := a) h.ml h.h2
  unfold memory_Memory_Store.f
  rw [h1, Option.bind_some]
  cases b with
  | false => exact ⟨7, s.m, by simp, rfl⟩
  | true =>
    obtain ⟨y, hy⟩ := at_ok (r := s.m) (i := a) (by have := h2 rfl; omega) (by have := h2 rfl; have := h.ml; have := h.h2; omega)
    exact ⟨0, s.m.set a.toNat v, by simp [hy], by simp⟩
theorem clr_len {xs : List Int} {l h : Int} (h0 : 0 ≤ l) (h1 : l ≤ h) (h2 : h ≤ (xs.length : Int)) : (clrL xs l h).length = xs.length := by
  unfold clrL; simp; omega
theorem alloc_f {B fl : Int} {s : Ts} (h : Iv B fl s) {k : Int} (h0 : 0 ≤ k) (h1 : k ≤ 1048576) : ∃ v e m' h', memory_Memory_Alloc.f s.m s.h fl k = some (v, e, m', h') ∧ m'.length = s.m.length ∧ (e = 0 → h' = s.h + k) ∧ (¬ e = 0 → h' = s.h) ∧ h' ≤ fl := by
  have a1 := h.h1; have a2 := h.h2; have a3 := h.fl1; have a4 := h.ml
  unfold memory_Memory_Alloc.f
  rw [if_neg (by omega), w64 (n := fl - s.h) (by omega) (by omega), w64 (n := s.h + k) (by omega) (by omega)]
  by_cases hk : fl - s.h < k
  · rw [if_pos hk]; exact ⟨0, 9, s.m, s.h, rfl, rfl, fun h => absurd h (by decide), fun _ => rfl, a2⟩
  · rw [if_neg hk, if_pos (by omega), Option.bind_some]
    exact ⟨s.h, 0, _, _, rfl, clr_len (by omega) (by omega) (by omega), fun _ => rfl, fun h => absurd rfl h, by omega⟩
theorem value_step {l : List S45} {fl : Int} {n : Nat} (hc : CallP l fl n) (hl : l.length ≤ 1000) : ValueP l fl (n + 1) := by
  intro B s z o r hI hB ho hoc hr hn
  have hro := ho.ro
  have hlo : (r.length : Int) = z + 1 := by omega
  have i1 := hI.f0; have i2 := hI.ld0; have i3 := hI.st0; have i4 := hI.pot; have i5 := hI.c; have i6 := hI.h1; have i7 := hI.h2; have i8 := hI.fl1
  show ∃ v e s', trace_runner_value.g (trace_runner_call.fix n).1 (trace_runner_call.fix n).2.1 (trace_runner_call.fix n).2.2 l s.m s.h fl s.i s.f s.d s.o 0 s.ld s.st s.c o r = some (tv v e s') ∧ Iv (B + 1) fl s' ∧ Gs 1 s s'
  unfold trace_runner_value.g
  unfold Ro at hro
  rcases hro with h | h | h | h | h | h | h | h | h
  · rw [if_pos h.1]; exact ⟨_, _, s, rfl, hI.up, Gs.refl s (by omega)⟩
  · have g1 := ho.a (.inl h.1); have g2 := ho.b (.inl h.1)
    obtain ⟨y, hy⟩ := at_ok (r := r) (i := o.f2) (by have := h.2.2.1.1; omega) (by omega)
    obtain ⟨w, hw⟩ := at_ok (r := r) (i := o.f3) (by have := h.2.2.2.1.1; omega) (by omega)
    obtain ⟨k, e, hk⟩ := do_f o.f4 y w
    rw [if_neg (by omega), if_neg (by omega), if_pos h.1, hy, Option.bind_some, hw, Option.bind_some, hk, Option.bind_some]
    exact ⟨_, _, s, rfl, hI.up, Gs.refl s (by omega)⟩
  · have g1 := ho.a (.inr (.inl h.1))
    obtain ⟨y, hy⟩ := at_ok (r := r) (i := o.f2) (by have := h.2.2.1.1; omega) (by omega)
    rw [if_neg (by omega), if_pos h.1, hy, Option.bind_some]
    exact ⟨_, _, s, rfl, hI.up, Gs.refl s (by omega)⟩
  · have g1 := ho.a (.inr (.inr (.inl h.1)))
    obtain ⟨y, hy⟩ := at_ok (r := r) (i := o.f2) (by have := h.2.2.1.1; omega) (by omega)
    obtain ⟨v, e, hv⟩ := load_f hI (IntKind.i64.wrap (y + o.f4))
    rw [if_neg (by omega), if_neg (by omega), if_neg (by omega), if_neg (by omega), if_neg (by omega), if_neg (by omega)]
    unfold trace_runner_cells.f
    rw [if_pos h.1, hy, Option.bind_some, hv, Option.bind_some]
    simp only [jn]
    by_cases he : e = 0
    · rw [if_pos he, w64 (n := s.ld + 1) (by omega) (by omega), Option.bind_some]
      exact ⟨_, _, { s with ld := s.ld + 1 }, rfl, { hI with ld0 := by show 0 ≤ s.ld + 1; omega, pot := by show (s.o.length : Int) + (s.ld + 1) + s.st + s.f ≤ B + 1; omega }, ⟨rfl, Int.le_refl _, ⟨[], by simp⟩, by show s.ld ≤ s.ld + 1; omega, Int.le_refl _, by show (s.o.length : Int) + (s.ld + 1) + s.st + s.f ≤ _; omega⟩⟩
    · rw [if_neg he, Option.bind_some]
      exact ⟨_, _, s, rfl, hI.up, Gs.refl s (by omega)⟩
  · have g1 := ho.a (.inr (.inr (.inr (.inl h.1)))); have g2 := ho.b (.inr h.1)
    obtain ⟨y, hy⟩ := at_ok (r := r) (i := o.f2) (by have := h.2.2.1.1; omega) (by omega)
    obtain ⟨w, hw⟩ := at_ok (r := r) (i := o.f3) (by have := h.2.2.2.1.1; omega) (by omega)
    obtain ⟨e, m', hv, hm⟩ := store_f hI (IntKind.i64.wrap (y + o.f4)) w
    rw [if_neg (by omega), if_neg (by omega), if_neg (by omega), if_neg (by omega), if_neg (by omega), if_neg (by omega)]
    unfold trace_runner_cells.f
    rw [if_neg (by omega), if_pos h.1, hy, Option.bind_some, hw, Option.bind_some, hv, Option.bind_some]
    simp only [jn]
    have hml : ((m'.length : Nat) : Int) = fl := by rw [hm]; exact hI.ml
    by_cases he : e = 0
    · rw [if_pos he, w64 (n := s.st + 1) (by omega) (by omega), Option.bind_some]
      exact ⟨_, _, { s with m := m', st := s.st + 1 }, rfl, { hI with ml := hml, st0 := by show 0 ≤ s.st + 1; omega, pot := by show (s.o.length : Int) + s.ld + (s.st + 1) + s.f ≤ B + 1; omega }, ⟨rfl, Int.le_refl _, ⟨[], by simp⟩, Int.le_refl _, by show s.st ≤ s.st + 1; omega, by show (s.o.length : Int) + s.ld + (s.st + 1) + s.f ≤ _; omega⟩⟩
    · rw [if_neg he, Option.bind_some]
      exact ⟨_, _, { s with m := m' }, rfl, { hI with ml := hml, pot := by show (s.o.length : Int) + s.ld + s.st + s.f ≤ B + 1; omega }, ⟨rfl, Int.le_refl _, ⟨[], by simp⟩, Int.le_refl _, Int.le_refl _, by show (s.o.length : Int) + s.ld + s.st + s.f ≤ _; omega⟩⟩
  · obtain ⟨k0, k1⟩ := hoc.new h.1
    obtain ⟨v, e, m', h', hv, hm, he0, he1, hh⟩ := alloc_f hI k0 k1
    rw [if_neg (by omega), if_neg (by omega), if_neg (by omega), if_neg (by omega), if_neg (by omega), if_neg (by omega)]
    unfold trace_runner_cells.f
    rw [if_neg (by omega), if_neg (by omega), hv, Option.bind_some]
    simp only [jn]
    have hml : ((m'.length : Nat) : Int) = fl := by rw [hm]; exact hI.ml
    by_cases he : e = 0
    · rw [if_pos he, w64 (n := s.c + o.f4) (by omega) (by omega), Option.bind_some]
      have hh' := he0 he
      exact ⟨_, _, { s with m := m', h := h', c := s.c + o.f4 }, rfl, { hI with ml := hml, h1 := by show 1 ≤ h'; omega, h2 := hh, c := by show s.c + o.f4 = h' - 1; omega, pot := by show (s.o.length : Int) + s.ld + s.st + s.f ≤ B + 1; omega }, ⟨rfl, Int.le_refl _, ⟨[], by simp⟩, Int.le_refl _, Int.le_refl _, by show (s.o.length : Int) + s.ld + s.st + s.f ≤ _; omega⟩⟩
    · rw [if_neg he, Option.bind_some]
      have hh' := he1 he
      exact ⟨_, _, { s with m := m', h := h' }, rfl, { hI with ml := hml, h1 := by show 1 ≤ h'; omega, h2 := hh, c := by show s.c = h' - 1; omega, pot := by show (s.o.length : Int) + s.ld + s.st + s.f ≤ B + 1; omega }, ⟨rfl, Int.le_refl _, ⟨[], by simp⟩, Int.le_refl _, Int.le_refl _, by show (s.o.length : Int) + s.ld + s.st + s.f ≤ _; omega⟩⟩
  · obtain ⟨g, hg1, hg2⟩ := hoc.call h.1
    have ha5 := ho.args
    have hloop : ∃ us : List Int, trace_runner_value.l0 o r (o.f5.length + 1) (List.replicate (o.f5.length : Int).toNat (0 : Int)) 0 = some us ∧ us.length = o.f5.length := by
      have := loopd (xs := o.f5) (F := fun n i w => trace_runner_value.l0 o r n w i) (P := fun ys f => ∀ w : List Int, w.length = o.f5.length → ∃ us, f w = some us ∧ us.length = o.f5.length) (by omega) (fun n w hw => ⟨w, by simp [trace_runner_value.l0], hw⟩) (fun n i y ys hd hlt hat hm hw ih w hwl => by
        have hy := ho.c h.1 y hm
        have hy1 := h.2.2.2.2 y hm
        obtain ⟨u, hu⟩ := at_ok (r := r) (i := y) (by have := hy1.1; omega) (by omega)
        obtain ⟨u2, hu2⟩ := at_ok (r := w) (i := (i : Int)) (by omega) (by omega)
        obtain ⟨us, e1, e2⟩ := ih (w.set i u) (by simpa using hwl)
        refine ⟨us, ?_, e2⟩
        show trace_runner_value.l0 o r (n + 1) w i = _
        rw [trace_runner_value.l0, if_pos hlt, hat, Option.bind_some, hu, Option.bind_some, hu2, Option.bind_some, Int.toNat_natCast, hw]; exact e1) (o.f5.length + 1) (by omega)
      exact this _ (by simp)
    obtain ⟨us, ha1, ha2⟩ := hloop
    obtain ⟨v, e, s', hs1, hs2, hs3⟩ := hc B s g us hI hB (at_mem hg1) (by omega) (by omega)
    rw [if_neg (by omega), if_neg (by omega), if_neg (by omega), if_neg (by omega), if_neg (by omega), if_pos h.1, if_pos (by omega), ha1, Option.bind_some, hg1, Option.bind_some]
    have hs1' : (trace_runner_call.fix n).1 l s.m s.h fl s.i s.f s.d s.o 0 s.ld s.st s.c g us = some (tv v e s') := hs1
    rw [hs1', Option.bind_some]
    exact ⟨v, e, s', rfl, hs2.up, { hs3 with pot := by have := hs3.pot; omega }⟩
  · rw [if_neg (by omega), if_neg (by omega), if_neg (by omega), if_pos h.1]
    unfold trace_runner_read.f
    by_cases hi : (s.i.length : Int) = 0
    · rw [if_pos hi, Option.bind_some]; exact ⟨_, _, s, rfl, hI.up, Gs.refl s (by omega)⟩
    · obtain ⟨y, hy⟩ := at_ok (r := s.i) (i := 0) (by omega) (by omega)
      have hcut : ∃ u, cut? s.i (1 : Int) (s.i.length : Int) = some u := by unfold cut?; exact ⟨_, if_pos (by omega)⟩
      obtain ⟨u, hu⟩ := hcut
      rw [if_neg hi, hy, Option.bind_some, hu, Option.bind_some, Option.bind_some]
      exact ⟨_, _, { s with i := u }, rfl, { hI with pot := by show (s.o.length : Int) + s.ld + s.st + s.f ≤ B + 1; omega }, ⟨rfl, Int.le_refl _, ⟨[], by simp⟩, Int.le_refl _, Int.le_refl _, by show (s.o.length : Int) + s.ld + s.st + s.f ≤ _; omega⟩⟩
  · have g1 := ho.a (.inr (.inr (.inr (.inr h.1))))
    obtain ⟨y, hy⟩ := at_ok (r := r) (i := o.f2) (by have := h.2.2.1.1; omega) (by omega)
    rw [if_neg (by omega), if_neg (by omega), if_neg (by omega), if_neg (by omega), if_pos h.1, hy, Option.bind_some, if_pos (by omega)]
    exact ⟨_, _, { s with o := s.o ++ [y] }, rfl, { hI with pot := by show ((s.o ++ [y]).length : Int) + s.ld + s.st + s.f ≤ B + 1; simp; omega }, ⟨rfl, Int.le_refl _, ⟨[y], rfl⟩, Int.le_refl _, Int.le_refl _, by show ((s.o ++ [y]).length : Int) + s.ld + s.st + s.f ≤ _; simp; omega⟩⟩
theorem dst0 {o : S37} (h : Ro o) : 0 ≤ o.f1 := by
  unfold Ro at h
  rcases h with h | h | h | h | h | h | h | h | h <;> first | omega | (have := h.2.1.1; omega)
theorem pay_lo {l : List S45} {m : List Int} {h fl : Int} {i : List Int} {f d : Int} {o : List Int} {a b c e : Int} (hf : f < 1) : trace_runner_pay.f l m h fl i f d o a b c e = some (12, f) := by
  unfold trace_runner_pay.f; rw [if_pos hf]
theorem pay_hi {l : List S45} {m : List Int} {h fl : Int} {i : List Int} {f d : Int} {o : List Int} {a b c e : Int} (hf : ¬ f < 1) (h1 : f ≤ 100000) : trace_runner_pay.f l m h fl i f d o a b c e = some (0, f - 1) := by
  unfold trace_runner_pay.f; rw [if_neg hf, w64 (by omega) (by omega)]
abbrev less (s : Ts) : Ts := { s with f := s.f - 1 }
theorem Gs.less (s : Ts) : Gs (-1) s (less s) := ⟨rfl, by show s.f - 1 ≤ s.f; omega, ⟨[], by simp⟩, Int.le_refl _, Int.le_refl _, by show (s.o.length : Int) + s.ld + s.st + (s.f - 1) ≤ _; omega⟩
theorem Iv.less {B fl : Int} {s : Ts} (h : Iv B fl s) (hf : ¬ s.f < 1) : Iv (B - 1) fl (less s) := { h with f0 := by show 0 ≤ s.f - 1; omega, pot := by have := h.pot; show (s.o.length : Int) + s.ld + s.st + (s.f - 1) ≤ B - 1; omega }
theorem Iv.fB {B fl : Int} {s : Ts} (h : Iv B fl s) : s.f ≤ B := by have := h.pot; have := h.ld0; have := h.st0; omega
abbrev tr (s : Ts) (r : List Int) : List Int × Int × Int × List Int × Int × Int × Int × List Int × Int × List Int := (s.i, s.f, s.d, s.o, s.ld, s.st, s.c, s.m, s.h, r)
theorem block_loop {l : List S45} {fl : Int} {n : Nat} (hv : ValueP l fl n) {B d : Int} {z : Nat} {b : S42} (hB : B ≤ 90000) (hbl : b.f0.length ≤ 250) (hb : ∀ o ∈ b.f0, Oz z o ∧ Oc l o) (hn : 3 * (1000 - d) + 2 ≤ (n : Int)) (s : Ts) (r : List Int) (hI : Iv B fl s) (hd : s.d = d) (hr : r.length = z + 1) :
    (∃ e s' r', ¬ e = 0 ∧ trace_runner_block.l0 (trace_runner_call.fix n).2.2 l fl 0 b (b.f0.length + 1) r 0 s.i s.f s.d s.o s.ld s.st s.c s.m s.h = some (.inl (tb e s' r')) ∧ Iv B fl s' ∧ Gs 0 s s' ∧ r'.length = z + 1)
    ∨ (∃ s' r', trace_runner_block.l0 (trace_runner_call.fix n).2.2 l fl 0 b (b.f0.length + 1) r 0 s.i s.f s.d s.o s.ld s.st s.c s.m s.h = some (.inr (tr s' r')) ∧ Iv B fl s' ∧ Gs 0 s s' ∧ r'.length = z + 1) := by
  have := loopd (xs := b.f0) (F := fun N i (s : Ts) (r : List Int) => trace_runner_block.l0 (trace_runner_call.fix n).2.2 l fl 0 b N r i s.i s.f s.d s.o s.ld s.st s.c s.m s.h)
    (P := fun os f => ∀ (s : Ts) (r : List Int), Iv B fl s → s.d = d → r.length = z + 1 → (∃ e s' r', ¬ e = 0 ∧ f s r = some (.inl (tb e s' r')) ∧ Iv B fl s' ∧ Gs 0 s s' ∧ r'.length = z + 1) ∨ (∃ s' r', f s r = some (.inr (tr s' r')) ∧ Iv B fl s' ∧ Gs 0 s s' ∧ r'.length = z + 1)) (by omega)
    (fun N s r hI hd hr => .inr ⟨s, r, by simp [trace_runner_block.l0], hI, Gs.refl s (by omega), hr⟩)
    (fun N i o os hdr hlt hat hm hw ih s r hI hd hr => ?_) (b.f0.length + 1) (by omega)
  · exact this s r hI hd hr
  · show (∃ e s' r', ¬ e = 0 ∧ trace_runner_block.l0 (trace_runner_call.fix n).2.2 l fl 0 b (N + 1) r i s.i s.f s.d s.o s.ld s.st s.c s.m s.h = some (.inl (tb e s' r')) ∧ _) ∨ (∃ s' r', trace_runner_block.l0 (trace_runner_call.fix n).2.2 l fl 0 b (N + 1) r i s.i s.f s.d s.o s.ld s.st s.c s.m s.h = some (.inr (tr s' r')) ∧ _)
    rw [trace_runner_block.l0, if_pos hlt, hat, Option.bind_some]
    obtain ⟨ho, hoc⟩ := hb o hm
    by_cases hf : s.f < 1
    · rw [pay_lo hf, Option.bind_some, if_pos (show (!decide ((12 : Int) = 0)) = true by decide)]
      exact .inl ⟨12, s, r, by decide, rfl, hI, Gs.refl s (by omega), hr⟩
    · rw [pay_hi hf (by have := hI.fB; omega), Option.bind_some, if_neg (show ¬ (!decide ((0 : Int) = 0)) = true by decide)]
      obtain ⟨v, e, s', e1, e2, e3⟩ := hv (B - 1) (less s) z o r (hI.less hf) (by omega) ho hoc hr (by show 3 * (1000 - s.d) + 2 ≤ (n : Int); omega)
      have e1' : (trace_runner_call.fix n).2.2 l s.m s.h fl s.i (s.f - 1) s.d s.o 0 s.ld s.st s.c o r = some (tv v e s') := e1
      have e2' : Iv B fl s' := by have := e2; rwa [Int.sub_add_cancel] at this
      have e3' : Gs 0 s s' := (Gs.less s).trans e3
      rw [e1', Option.bind_some]
      simp only [jn]
      by_cases he : e = 0
      · rw [if_neg (by simp [he])]
        by_cases h1 : o.f1 = 0
        · rw [if_neg (by simp [h1]), hw]
          rcases ih s' r e2' (e3'.d.trans hd) hr with ⟨e, s'', r', q0, q1, q2, q3, q4⟩ | ⟨s'', r', q1, q2, q3, q4⟩
          · exact .inl ⟨e, s'', r', q0, q1, q2, e3'.trans q3, q4⟩
          · exact .inr ⟨s'', r', q1, q2, e3'.trans q3, q4⟩
        · have hdd := ho.dst
          have hd0 := dst0 ho.ro
          obtain ⟨y, hy⟩ := at_ok (r := r) (i := o.f1) hd0 (by omega)
          rw [if_pos (by simp [h1]), hy, Option.bind_some, hw]
          rcases ih s' (r.set o.f1.toNat v) e2' (e3'.d.trans hd) (by simpa using hr) with ⟨e, s'', r', q0, q1, q2, q3, q4⟩ | ⟨s'', r', q1, q2, q3, q4⟩
          · exact .inl ⟨e, s'', r', q0, q1, q2, e3'.trans q3, q4⟩
          · exact .inr ⟨s'', r', q1, q2, e3'.trans q3, q4⟩
      · rw [if_pos (by simp [he])]
        exact .inl ⟨e, s', r, he, rfl, e2', e3', hr⟩
theorem block_step {l : List S45} {fl : Int} {n : Nat} (hv : ValueP l fl n) : BlockP l fl (n + 1) := by
  intro B s z b r hI hB hbl hb hr hn
  show ∃ e s' r', trace_runner_block.g (trace_runner_call.fix n).1 (trace_runner_call.fix n).2.1 (trace_runner_call.fix n).2.2 l s.m s.h fl s.i s.f s.d s.o 0 s.ld s.st s.c b r = some (tb e s' r') ∧ _
  unfold trace_runner_block.g
  rcases block_loop hv (d := s.d) hB hbl hb (by omega) s r hI rfl hr with ⟨e, s', r', q0, q1, q2, q3, q4⟩ | ⟨s', r', q1, q2, q3, q4⟩
  · rw [q1, Option.bind_some]
    exact ⟨e, s', r', rfl, q2, q3, q4, fun h => absurd h q0⟩
  · rw [q1, Option.bind_some]
    simp only []
    by_cases hf : s'.f < 1
    · rw [pay_lo hf, Option.bind_some]
      exact ⟨12, s', r', rfl, q2, q3, q4, fun h => absurd h (by decide)⟩
    · rw [pay_hi hf (by have := q2.fB; omega), Option.bind_some]
      have hl := q2.less hf
      exact ⟨0, less s', r', rfl, { hl with pot := by have := hl.pot; omega }, { (q3.trans (Gs.less s')) with pot := by have := (q3.trans (Gs.less s')).pot; omega }, q4, fun _ => by have := q3.f; show s'.f - 1 < s.f; omega⟩
abbrev back (s : Ts) : Ts := { s with d := IntKind.i64.wrap (s.d - 1) }
theorem call_loop {l : List S45} {fl : Int} {n : Nat} (hb : BlockP l fl n) {B d : Int} {z : Nat} {t : S45} (hB : B ≤ 90000) (ht : Fz z t) (hop : ∀ y ∈ t.f1, y.f0.length ≤ 250 ∧ ∀ o ∈ y.f0, Oc l o) (hn : 3 * (1000 - d) + 3 ≤ (n : Int)) :
    ∀ (N : Nat) (s : Ts) (r : List Int) (x : Int), Iv B fl s → s.d = d → r.length = z + 1 → 0 ≤ x → x < (t.f1.length : Int) → s.f < (N : Int) → ∃ v e s', trace_runner_call.l0 (trace_runner_call.fix n).2.1 l fl 0 t N r x s.i s.f s.d s.o s.ld s.st s.c s.m s.h = some (tv v e (back s')) ∧ Iv B fl s' ∧ Gs 0 s s' := by
  intro N
  induction N with
  | zero => intro s r x hI hd hr hx0 hx1 hN; have := hI.f0; omega
  | succ N ih =>
    intro s r x hI hd hr hx0 hx1 hN
    obtain ⟨y, hy⟩ := at_ok (r := t.f1) hx0 hx1
    have hm := at_mem hy
    obtain ⟨k1, k2⟩ := hop y hm
    obtain ⟨e, s', r', q1, q2, q3, q4, q5⟩ := hb B s z y r hI hB k1 (fun o ho => ⟨ht.op y hm o ho, k2 o ho⟩) hr (by omega)
    have q1' : (trace_runner_call.fix n).2.1 l s.m s.h fl s.i s.f s.d s.o 0 s.ld s.st s.c y r = some (tb e s' r') := q1
    obtain ⟨hrt, hz⟩ := ht.term y hm
    rw [trace_runner_call.l0, hy, Option.bind_some, q1', Option.bind_some]
    simp only [jn]
    by_cases he : e = 0
    · have hlt := q5 he
      have go : ∀ x, 0 ≤ x → x < (t.f1.length : Int) → ∃ v e s'', trace_runner_call.l0 (trace_runner_call.fix n).2.1 l fl 0 t N r' x s'.i s'.f s'.d s'.o s'.ld s'.st s'.c s'.m s'.h = some (tv v e (back s'')) ∧ Iv B fl s'' ∧ Gs 0 s s'' := fun x h0 h1 => by
        obtain ⟨v, e, s'', g1, g2, g3⟩ := ih s' r' x q2 (q3.d.trans hd) q4 h0 h1 (by omega)
        exact ⟨v, e, s'', g1, g2, q3.trans g3⟩
      rw [if_neg (by simp [he])]
      unfold Rt at hrt
      rcases hrt with h | h | h | h
      · rw [if_neg (by omega), if_neg (by omega), if_pos h.1, if_pos trivial]
        exact go _ (by omega) (by omega)
      · have hz' := hz (.inl h.1)
        obtain ⟨u, hu⟩ := at_ok (r := r') (i := y.f1.f1) (by have := h.2.2.2.2.2.1; omega) (by omega)
        rw [if_neg (by omega), if_neg (by omega), if_neg (by omega), hu, Option.bind_some]
        by_cases hu0 : u = 0
        · rw [if_neg (by simp [hu0])]; exact go _ (by omega) (by omega)
        · rw [if_pos (by simp [hu0])]; exact go _ (by omega) (by omega)
      · have hz' := hz (.inr h.1)
        obtain ⟨u, hu⟩ := at_ok (r := r') (i := y.f1.f1) (by have := h.2.1.1; omega) (by omega)
        rw [if_pos h.1, hu, Option.bind_some]
        exact ⟨u, 0, s', rfl, q2, q3⟩
      · rw [if_neg (by omega), if_pos h.1]
        exact ⟨0, _, s', rfl, q2, q3⟩
    · rw [if_pos (by simp [he])]
      exact ⟨0, e, s', rfl, q2, q3⟩
theorem cpy_len {xs ys : List Int} {l : Int} (h0 : 0 ≤ l) (h1 : l ≤ (xs.length : Int)) : (cpyL xs l (xs.length : Int) ys).length = xs.length := by
  unfold cpyL; simp; omega
theorem call_step {l : List S45} {fl : Int} {n : Nat} (hb : BlockP l fl n) (hw : Wp l) : CallP l fl (n + 1) := by
  intro B s t us hI hB ht hl hn
  show ∃ v e s', trace_runner_call.g (trace_runner_call.fix n).1 (trace_runner_call.fix n).2.1 (trace_runner_call.fix n).2.2 l s.m s.h fl s.i s.f s.d s.o 0 s.ld s.st s.c t us = some (tv v e s') ∧ _
  unfold trace_runner_call.g
  have hd0 := hI.d0
  have hd1 := hI.d1
  by_cases hd : 1000 ≤ s.d
  · rw [if_pos hd]; exact ⟨0, 8, s, rfl, hI, Gs.refl s (by omega)⟩
  · obtain ⟨z, hz⟩ := hw.fn t ht
    have hle := hz.le
    have hz1 := hz.rf.l1
    rw [if_neg hd, hz.regs, Option.bind_some, w64 (n := (z : Int) + 1) (by omega) (by omega), if_pos (by omega), List.length_replicate, if_pos (by omega), Option.bind_some, w64 (n := s.d + 1) (by omega) (by omega)]
    have hcl : (cpyL (List.replicate ((z : Int) + 1).toNat (0 : Int)) 1 (((z : Int) + 1).toNat : Int) us).length = z + 1 := by
      have := cpy_len (xs := List.replicate ((z : Int) + 1).toNat (0 : Int)) (ys := us) (l := 1) (by omega) (by simp; omega)
      rw [List.length_replicate] at this
      rw [this]; omega
    have hI1 : Iv B fl { s with d := s.d + 1 } := { hI with d0 := by show 0 ≤ s.d + 1; omega, d1 := by show s.d + 1 ≤ 1000; omega }
    obtain ⟨v, e, s', g1, g2, g3⟩ := call_loop hb (d := s.d + 1) hB hz (hw.op t ht) (by omega) 100000 { s with d := s.d + 1 } _ 0 hI1 rfl hcl (by omega) (by omega) (by have := hI.fB; show s.f < _; omega)
    have g1' : trace_runner_call.l0 (trace_runner_call.fix n).2.1 l fl 0 t 100000 (cpyL (List.replicate ((z : Int) + 1).toNat (0 : Int)) 1 (((z : Int) + 1).toNat : Int) us) 0 s.i s.f (s.d + 1) s.o s.ld s.st s.c s.m s.h = some (tv v e (back s')) := g1
    rw [g1', Option.bind_some]
    have hd2 : s'.d = s.d + 1 := g3.d
    have hd3 : IntKind.i64.wrap (s'.d - 1) = s.d := by rw [hd2, w64 (by omega) (by omega)]; omega
    exact ⟨v, e, back s', rfl, { g2 with d0 := by show 0 ≤ IntKind.i64.wrap (s'.d - 1); omega, d1 := by show IntKind.i64.wrap (s'.d - 1) ≤ 1000; omega }, { g3 with d := hd3 }⟩
theorem total {l : List S45} {fl : Int} (hw : Wp l) (hl : l.length ≤ 1000) : ∀ n, CallP l fl n ∧ BlockP l fl n ∧ ValueP l fl n := by
  intro n
  induction n with
  | zero => exact ⟨fun B s t us hI _ _ _ hn => by have := hI.d1; omega, fun B s z b r hI _ _ _ _ hn => by have := hI.d1; omega, fun B s z o r hI _ _ _ _ hn => by have := hI.d1; omega⟩
  | succ n ih => exact ⟨call_step ih.2.1 hw, block_step ih.2.2, value_step ih.1 hl⟩
end Go.Proofs.Ytfmocegnpmomnaa.Sy
