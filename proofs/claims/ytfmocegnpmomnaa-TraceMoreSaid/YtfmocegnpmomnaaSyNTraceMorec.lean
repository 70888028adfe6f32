/- Texts of this work, joined: SyF28, SyF11, SyF14, SyF35, SyF15, SyF17, SyF9. -/
import Derived.Test.YtfmocegnpmomnaaSyNTraceMoreb
set_option linter.unusedVariables false
set_option linter.unusedSimpArgs false
set_option maxRecDepth 100000
set_option maxHeartbeats 4000000
namespace Go.Proofs.Ytfmocegnpmomnaa.Sy
open Go Go.RowKit Go.Proofs.YtfmocegnpmomnaaW.PrintWords 
def trace_runner_call.post (G : Gd) (b1 : Nat) (A2 : Option Addr) (c3 : Nat) (b6 : Nat) (A7 : Option Addr) (c8 : Nat) (A10 : Option Addr) (c11 : Nat) (A14 : Option Addr) (c15 : Nat) (A17 : Option Addr) (c18 : Nat) (A21 : Option Addr) (c22 : Nat) (n24 : Nat) (a0_0 : (List S45)) (a0_1_0 : (List Int)) (a0_1_1 : Int) (a0_1_2 : Int) (a0_2 : (List Int)) (a0_3 : Int) (a0_4 : Int) (a0_5 : (List Int)) (a0_6 : Int) (a0_7 : Int) (a0_8 : Int) (a0_9 : Int) (a1 : S45) (a2 : (List Int)) (r : (Int × Int × (List Int) × Int × (List Int) × Int × Int × (List Int) × Int × Int × Int)) (v : Value) (G' : Gd) (Lr : List Ch) : Prop := G = G' ∧ ∃ (A_s1 : Option Addr) (c_s1 : Nat) (A_s4 : Option Addr) (c_s4 : Nat) (A_s7 : Option Addr) (c_s7 : Nat), v = .tuple #[.int .i64 r.1, .int .i64 r.2.1] ∧ Lr = [Blk b1 [.slice A2 a0_0.length c3, .pointer (some ⟨b6, 0, none⟩), .slice A_s4 r.2.2.2.2.1.length c_s4, .int .i64 r.2.2.2.2.2.1, .int .i64 r.2.2.2.2.2.2.1, .slice A_s7 r.2.2.2.2.2.2.2.1.length c_s7, .int .i64 a0_6, .int .i64 r.2.2.2.2.2.2.2.2.1, .int .i64 r.2.2.2.2.2.2.2.2.2.1, .int .i64 r.2.2.2.2.2.2.2.2.2.2] 58, Blk b6 [.slice A_s1 r.2.2.1.length c_s1, .int .i64 r.2.2.2.1, .int .i64 a0_1_2] 89, Row (Kd.int .i64) 3 (.slice A_s1 r.2.2.1.length c_s1) r.2.2.1, Row (Kd.int .i64) 3 (.slice A_s7 r.2.2.2.2.2.2.2.1.length c_s7) r.2.2.2.2.2.2.2.1, Row (Kd.int .i64) 3 (.slice A21 n24 c22) a2] ∧ Rd G' (Kd.int .i64) A_s4 r.2.2.2.2.1 ∧ r.2.2.2.2.1.length ≤ c_s4
def trace_runner_block.post (G : Gd) (b1 : Nat) (A2 : Option Addr) (c3 : Nat) (b6 : Nat) (A7 : Option Addr) (c8 : Nat) (A10 : Option Addr) (c11 : Nat) (A14 : Option Addr) (c15 : Nat) (A17 : Option Addr) (c18 : Nat) (A21 : Option Addr) (c22 : Nat) (n24 : Nat) (a0_0 : (List S45)) (a0_1_0 : (List Int)) (a0_1_1 : Int) (a0_1_2 : Int) (a0_2 : (List Int)) (a0_3 : Int) (a0_4 : Int) (a0_5 : (List Int)) (a0_6 : Int) (a0_7 : Int) (a0_8 : Int) (a0_9 : Int) (a1 : S42) (a2 : (List Int)) (r : (Int × (List Int) × Int × (List Int) × Int × Int × (List Int) × Int × Int × Int × (List Int))) (v : Value) (G' : Gd) (Lr : List Ch) : Prop := G = G' ∧ ∃ (A_s1 : Option Addr) (c_s1 : Nat) (A_s4 : Option Addr) (c_s4 : Nat) (A_s7 : Option Addr) (c_s7 : Nat), v = .int .i64 r.1 ∧ Lr = [Blk b1 [.slice A2 a0_0.length c3, .pointer (some ⟨b6, 0, none⟩), .slice A_s4 r.2.2.2.1.length c_s4, .int .i64 r.2.2.2.2.1, .int .i64 r.2.2.2.2.2.1, .slice A_s7 r.2.2.2.2.2.2.1.length c_s7, .int .i64 a0_6, .int .i64 r.2.2.2.2.2.2.2.1, .int .i64 r.2.2.2.2.2.2.2.2.1, .int .i64 r.2.2.2.2.2.2.2.2.2.1] 58, Blk b6 [.slice A_s1 r.2.1.length c_s1, .int .i64 r.2.2.1, .int .i64 a0_1_2] 89, Row (Kd.int .i64) 3 (.slice A_s1 r.2.1.length c_s1) r.2.1, Row (Kd.int .i64) 3 (.slice A_s7 r.2.2.2.2.2.2.1.length c_s7) r.2.2.2.2.2.2.1, Row (Kd.int .i64) 3 (.slice A21 n24 c22) r.2.2.2.2.2.2.2.2.2.2] ∧ Rd G' (Kd.int .i64) A_s4 r.2.2.2.1 ∧ r.2.2.2.1.length ≤ c_s4
def trace_runner_value.post (G : Gd) (b1 : Nat) (A2 : Option Addr) (c3 : Nat) (b6 : Nat) (A7 : Option Addr) (c8 : Nat) (A10 : Option Addr) (c11 : Nat) (A14 : Option Addr) (c15 : Nat) (A17 : Option Addr) (c18 : Nat) (A21 : Option Addr) (c22 : Nat) (n24 : Nat) (a0_0 : (List S45)) (a0_1_0 : (List Int)) (a0_1_1 : Int) (a0_1_2 : Int) (a0_2 : (List Int)) (a0_3 : Int) (a0_4 : Int) (a0_5 : (List Int)) (a0_6 : Int) (a0_7 : Int) (a0_8 : Int) (a0_9 : Int) (a1 : S37) (a2 : (List Int)) (r : (Int × Int × (List Int) × Int × (List Int) × Int × Int × (List Int) × Int × Int × Int)) (v : Value) (G' : Gd) (Lr : List Ch) : Prop := G = G' ∧ ∃ (A_s1 : Option Addr) (c_s1 : Nat) (A_s4 : Option Addr) (c_s4 : Nat) (A_s7 : Option Addr) (c_s7 : Nat), v = .tuple #[.int .i64 r.1, .int .i64 r.2.1] ∧ Lr = [Blk b1 [.slice A2 a0_0.length c3, .pointer (some ⟨b6, 0, none⟩), .slice A_s4 r.2.2.2.2.1.length c_s4, .int .i64 r.2.2.2.2.2.1, .int .i64 r.2.2.2.2.2.2.1, .slice A_s7 r.2.2.2.2.2.2.2.1.length c_s7, .int .i64 a0_6, .int .i64 r.2.2.2.2.2.2.2.2.1, .int .i64 r.2.2.2.2.2.2.2.2.2.1, .int .i64 r.2.2.2.2.2.2.2.2.2.2] 58, Blk b6 [.slice A_s1 r.2.2.1.length c_s1, .int .i64 r.2.2.2.1, .int .i64 a0_1_2] 89, Row (Kd.int .i64) 3 (.slice A_s1 r.2.2.1.length c_s1) r.2.2.1, Row (Kd.int .i64) 3 (.slice A_s7 r.2.2.2.2.2.2.2.1.length c_s7) r.2.2.2.2.2.2.2.1, Row (Kd.int .i64) 3 (.slice A21 n24 c22) a2] ∧ Rd G' (Kd.int .i64) A_s4 r.2.2.2.2.1 ∧ r.2.2.2.2.1.length ≤ c_s4
def trace_runner_call.l0 (rec58 : ((List S45) → (List Int) → Int → Int → (List Int) → Int → Int → (List Int) → Int → Int → Int → Int → S42 → (List Int) → Option (Int × (List Int) × Int × (List Int) × Int × Int × (List Int) × Int × Int × Int × (List Int)))) (a0_0 : (List S45)) (a0_1_2 : Int) (a0_6 : Int) (a1 : S45) : Nat → (List Int) → Int → (List Int) → Int → Int → (List Int) → Int → Int → Int → (List Int) → Int → Option (Int × Int × (List Int) × Int × (List Int) × Int × Int × (List Int) × Int × Int × Int)
 | 0, _, _, _, _, _, _, _, _, _, _, _ => none
 | n1542 + 1, l1035, x1039, l1040, x1045, x1046, l1047, x1051, x1052, x1053, l1054, x1058 => (at? a1.f1 x1039).bind fun y2320 => (rec58 a0_0 l1054 x1058 a0_1_2 l1040 x1045 x1046 l1047 a0_6 x1051 x1052 x1053 y2320 l1035).bind fun (y2334 : (Int × (List Int) × Int × (List Int) × Int × Int × (List Int) × Int × Int × Int × (List Int))) => (if (!decide (y2334.1 = 0)) = true then some (0, y2334.1, y2334.2.1, y2334.2.2.1, y2334.2.2.2.1, y2334.2.2.2.2.1, IntKind.i64.wrap (y2334.2.2.2.2.2.1 - 1), y2334.2.2.2.2.2.2.1, y2334.2.2.2.2.2.2.2.1, y2334.2.2.2.2.2.2.2.2.1, y2334.2.2.2.2.2.2.2.2.2.1) else (if y2320.f1.f0 = 3 then (at? y2334.2.2.2.2.2.2.2.2.2.2 y2320.f1.f1).bind fun y2569 => some (y2569, 0, y2334.2.1, y2334.2.2.1, y2334.2.2.2.1, y2334.2.2.2.2.1, IntKind.i64.wrap (y2334.2.2.2.2.2.1 - 1), y2334.2.2.2.2.2.2.1, y2334.2.2.2.2.2.2.2.1, y2334.2.2.2.2.2.2.2.2.1, y2334.2.2.2.2.2.2.2.2.2.1) else (if y2320.f1.f0 = 4 then some (0, y2320.f1.f2, y2334.2.1, y2334.2.2.1, y2334.2.2.2.1, y2334.2.2.2.2.1, IntKind.i64.wrap (y2334.2.2.2.2.2.1 - 1), y2334.2.2.2.2.2.2.1, y2334.2.2.2.2.2.2.2.1, y2334.2.2.2.2.2.2.2.2.1, y2334.2.2.2.2.2.2.2.2.2.1) else jn (γ := (Int × Int × (List Int) × Int × (List Int) × Int × Int × (List Int) × Int × Int × Int)) (fun (x2639 : Bool) => (if x2639 = true then trace_runner_call.l0 rec58 a0_0 a0_1_2 a0_6 a1 n1542 y2334.2.2.2.2.2.2.2.2.2.2 y2320.f1.f2 y2334.2.2.2.1 y2334.2.2.2.2.1 y2334.2.2.2.2.2.1 y2334.2.2.2.2.2.2.1 y2334.2.2.2.2.2.2.2.1 y2334.2.2.2.2.2.2.2.2.1 y2334.2.2.2.2.2.2.2.2.2.1 y2334.2.1 y2334.2.2.1 else trace_runner_call.l0 rec58 a0_0 a0_1_2 a0_6 a1 n1542 y2334.2.2.2.2.2.2.2.2.2.2 y2320.f1.f3 y2334.2.2.2.1 y2334.2.2.2.2.1 y2334.2.2.2.2.2.1 y2334.2.2.2.2.2.2.1 y2334.2.2.2.2.2.2.2.1 y2334.2.2.2.2.2.2.2.2.1 y2334.2.2.2.2.2.2.2.2.2.1 y2334.2.1 y2334.2.2.1)) (fun (j2640 : (Bool → Option (Int × Int × (List Int) × Int × (List Int) × Int × Int × (List Int) × Int × Int × Int))) => (if y2320.f1.f0 = 1 then j2640 true else (at? y2334.2.2.2.2.2.2.2.2.2.2 y2320.f1.f1).bind fun y2652 => j2640 (!decide (y2652 = 0)))))))
def trace_runner_call.g (rec28 : ((List S45) → (List Int) → Int → Int → (List Int) → Int → Int → (List Int) → Int → Int → Int → Int → S45 → (List Int) → Option (Int × Int × (List Int) × Int × (List Int) × Int × Int × (List Int) × Int × Int × Int))) (rec58 : ((List S45) → (List Int) → Int → Int → (List Int) → Int → Int → (List Int) → Int → Int → Int → Int → S42 → (List Int) → Option (Int × (List Int) × Int × (List Int) × Int × Int × (List Int) × Int × Int × Int × (List Int)))) (rec82 : ((List S45) → (List Int) → Int → Int → (List Int) → Int → Int → (List Int) → Int → Int → Int → Int → S37 → (List Int) → Option (Int × Int × (List Int) × Int × (List Int) × Int × Int × (List Int) × Int × Int × Int))) (a0_0 : (List S45)) (a0_1_0 : (List Int)) (a0_1_1 : Int) (a0_1_2 : Int) (a0_2 : (List Int)) (a0_3 : Int) (a0_4 : Int) (a0_5 : (List Int)) (a0_6 : Int) (a0_7 : Int) (a0_8 : Int) (a0_9 : Int) (a1 : S45) (a2 : (List Int)) : Option (Int × Int × (List Int) × Int × (List Int) × Int × Int × (List Int) × Int × Int × Int) := (if 1000 ≤ a0_4 then some (0, 8, a0_1_0, a0_1_1, a0_2, a0_3, a0_4, a0_5, a0_7, a0_8, a0_9) else (code_Regs.f a1).bind fun (y29 : Int) => (if 0 ≤ (IntKind.i64.wrap (y29 + 1)) ∧ (IntKind.i64.wrap (y29 + 1)) ≤ 17592186044416 then (if 0 ≤ (1 : Int) ∧ (1 : Int) ≤ ((List.replicate (IntKind.i64.wrap (y29 + 1)).toNat (0 : Int)).length : Int) ∧ ((List.replicate (IntKind.i64.wrap (y29 + 1)).toNat (0 : Int)).length : Int) ≤ ((List.replicate (IntKind.i64.wrap (y29 + 1)).toNat (0 : Int)).length : Int) then (some (cpyL (List.replicate (IntKind.i64.wrap (y29 + 1)).toNat (0 : Int)) (1 : Int) ((List.replicate (IntKind.i64.wrap (y29 + 1)).toNat (0 : Int)).length : Int) a2)).bind fun (y43 : List Int) => (trace_runner_call.l0 rec58 a0_0 a0_1_2 a0_6 a1 100000 y43 0 a0_2 a0_3 (IntKind.i64.wrap (a0_4 + 1)) a0_5 a0_7 a0_8 a0_9 a0_1_0 a0_1_1).bind fun q_ => some q_ else none) else none))
theorem trace_runner_call.step (rec28 : ((List S45) → (List Int) → Int → Int → (List Int) → Int → Int → (List Int) → Int → Int → Int → Int → S45 → (List Int) → Option (Int × Int × (List Int) × Int × (List Int) × Int × Int × (List Int) × Int × Int × Int))) (rec58 : ((List S45) → (List Int) → Int → Int → (List Int) → Int → Int → (List Int) → Int → Int → Int → Int → S42 → (List Int) → Option (Int × (List Int) × Int × (List Int) × Int × Int × (List Int) × Int × Int × Int × (List Int)))) (rec82 : ((List S45) → (List Int) → Int → Int → (List Int) → Int → Int → (List Int) → Int → Int → Int → Int → S37 → (List Int) → Option (Int × Int × (List Int) × Int × (List Int) × Int × Int × (List Int) × Int × Int × Int))) (ih28 : ∀ {G : Gd} {r : (Int × Int × (List Int) × Int × (List Int) × Int × Int × (List Int) × Int × Int × Int)} {a0_0 : (List S45)} {a0_1_0 : (List Int)} {a0_1_1 : Int} {a0_1_2 : Int} {a0_2 : (List Int)} {a0_3 : Int} {a0_4 : Int} {a0_5 : (List Int)} {a0_6 : Int} {a0_7 : Int} {a0_8 : Int} {a0_9 : Int} {a1 : S45} {a2 : (List Int)} {b1 : Nat} {A2 : Option Addr} {c3 : Nat} {b6 : Nat} {A7 : Option Addr} {c8 : Nat} {A10 : Option Addr} {c11 : Nat} {A14 : Option Addr} {c15 : Nat} {A17 : Option Addr} {c18 : Nat} {A21 : Option Addr} {c22 : Nat} {n24 : Nat} (hr4 : Rd G k45 A2 a0_0) (hl5 : a0_0.length ≤ c3) (hr12 : Rd G (Kd.int .i64) A10 a0_2) (hl13 : a0_2.length ≤ c11) (hr19 : Rd G k42 A17 a1.f1) (hl20 : a1.f1.length ≤ c18), rec28 a0_0 a0_1_0 a0_1_1 a0_1_2 a0_2 a0_3 a0_4 a0_5 a0_6 a0_7 a0_8 a0_9 a1 a2 = some r → Fn Try.prog 28 G [Blk b1 [.slice A2 a0_0.length c3, .pointer (some ⟨b6, 0, none⟩), .slice A10 a0_2.length c11, .int .i64 a0_3, .int .i64 a0_4, .slice A14 a0_5.length c15, .int .i64 a0_6, .int .i64 a0_7, .int .i64 a0_8, .int .i64 a0_9] 58, Blk b6 [.slice A7 a0_1_0.length c8, .int .i64 a0_1_1, .int .i64 a0_1_2] 89, Row (Kd.int .i64) 3 (.slice A7 a0_1_0.length c8) a0_1_0, Row (Kd.int .i64) 3 (.slice A14 a0_5.length c15) a0_5, Row (Kd.int .i64) 3 (.slice A21 n24 c22) a2] [.pointer (some ⟨b1, 0, none⟩), .agg #[.int .i64 a1.f0, .slice A17 a1.f1.length c18], .slice A21 n24 c22] (trace_runner_call.post G b1 A2 c3 b6 A7 c8 A10 c11 A14 c15 A17 c18 A21 c22 n24 a0_0 a0_1_0 a0_1_1 a0_1_2 a0_2 a0_3 a0_4 a0_5 a0_6 a0_7 a0_8 a0_9 a1 a2 r)) (ih58 : ∀ {G : Gd} {r : (Int × (List Int) × Int × (List Int) × Int × Int × (List Int) × Int × Int × Int × (List Int))} {a0_0 : (List S45)} {a0_1_0 : (List Int)} {a0_1_1 : Int} {a0_1_2 : Int} {a0_2 : (List Int)} {a0_3 : Int} {a0_4 : Int} {a0_5 : (List Int)} {a0_6 : Int} {a0_7 : Int} {a0_8 : Int} {a0_9 : Int} {a1 : S42} {a2 : (List Int)} {b1 : Nat} {A2 : Option Addr} {c3 : Nat} {b6 : Nat} {A7 : Option Addr} {c8 : Nat} {A10 : Option Addr} {c11 : Nat} {A14 : Option Addr} {c15 : Nat} {A17 : Option Addr} {c18 : Nat} {A21 : Option Addr} {c22 : Nat} {n24 : Nat} (hr4 : Rd G k45 A2 a0_0) (hl5 : a0_0.length ≤ c3) (hr12 : Rd G (Kd.int .i64) A10 a0_2) (hl13 : a0_2.length ≤ c11) (hr19 : Rd G k37 A17 a1.f0) (hl20 : a1.f0.length ≤ c18), rec58 a0_0 a0_1_0 a0_1_1 a0_1_2 a0_2 a0_3 a0_4 a0_5 a0_6 a0_7 a0_8 a0_9 a1 a2 = some r → Fn Try.prog 58 G [Blk b1 [.slice A2 a0_0.length c3, .pointer (some ⟨b6, 0, none⟩), .slice A10 a0_2.length c11, .int .i64 a0_3, .int .i64 a0_4, .slice A14 a0_5.length c15, .int .i64 a0_6, .int .i64 a0_7, .int .i64 a0_8, .int .i64 a0_9] 58, Blk b6 [.slice A7 a0_1_0.length c8, .int .i64 a0_1_1, .int .i64 a0_1_2] 89, Row (Kd.int .i64) 3 (.slice A7 a0_1_0.length c8) a0_1_0, Row (Kd.int .i64) 3 (.slice A14 a0_5.length c15) a0_5, Row (Kd.int .i64) 3 (.slice A21 n24 c22) a2] [.pointer (some ⟨b1, 0, none⟩), .agg #[.slice A17 a1.f0.length c18, .int .i64 a1.f1.f0, .int .i64 a1.f1.f1, .int .i64 a1.f1.f2, .int .i64 a1.f1.f3], .slice A21 n24 c22] (trace_runner_block.post G b1 A2 c3 b6 A7 c8 A10 c11 A14 c15 A17 c18 A21 c22 n24 a0_0 a0_1_0 a0_1_1 a0_1_2 a0_2 a0_3 a0_4 a0_5 a0_6 a0_7 a0_8 a0_9 a1 a2 r)) (ih82 : ∀ {G : Gd} {r : (Int × Int × (List Int) × Int × (List Int) × Int × Int × (List Int) × Int × Int × Int)} {a0_0 : (List S45)} {a0_1_0 : (List Int)} {a0_1_1 : Int} {a0_1_2 : Int} {a0_2 : (List Int)} {a0_3 : Int} {a0_4 : Int} {a0_5 : (List Int)} {a0_6 : Int} {a0_7 : Int} {a0_8 : Int} {a0_9 : Int} {a1 : S37} {a2 : (List Int)} {b1 : Nat} {A2 : Option Addr} {c3 : Nat} {b6 : Nat} {A7 : Option Addr} {c8 : Nat} {A10 : Option Addr} {c11 : Nat} {A14 : Option Addr} {c15 : Nat} {A17 : Option Addr} {c18 : Nat} {A21 : Option Addr} {c22 : Nat} {n24 : Nat} (hr4 : Rd G k45 A2 a0_0) (hl5 : a0_0.length ≤ c3) (hr12 : Rd G (Kd.int .i64) A10 a0_2) (hl13 : a0_2.length ≤ c11) (hr19 : Rd G (Kd.int .i64) A17 a1.f5) (hl20 : a1.f5.length ≤ c18), rec82 a0_0 a0_1_0 a0_1_1 a0_1_2 a0_2 a0_3 a0_4 a0_5 a0_6 a0_7 a0_8 a0_9 a1 a2 = some r → Fn Try.prog 82 G [Blk b1 [.slice A2 a0_0.length c3, .pointer (some ⟨b6, 0, none⟩), .slice A10 a0_2.length c11, .int .i64 a0_3, .int .i64 a0_4, .slice A14 a0_5.length c15, .int .i64 a0_6, .int .i64 a0_7, .int .i64 a0_8, .int .i64 a0_9] 58, Blk b6 [.slice A7 a0_1_0.length c8, .int .i64 a0_1_1, .int .i64 a0_1_2] 89, Row (Kd.int .i64) 3 (.slice A7 a0_1_0.length c8) a0_1_0, Row (Kd.int .i64) 3 (.slice A14 a0_5.length c15) a0_5, Row (Kd.int .i64) 3 (.slice A21 n24 c22) a2] [.pointer (some ⟨b1, 0, none⟩), .agg #[.int .i64 a1.f0, .int .i64 a1.f1, .int .i64 a1.f2, .int .i64 a1.f3, .int .i64 a1.f4, .slice A17 a1.f5.length c18], .slice A21 n24 c22] (trace_runner_value.post G b1 A2 c3 b6 A7 c8 A10 c11 A14 c15 A17 c18 A21 c22 n24 a0_0 a0_1_0 a0_1_1 a0_1_2 a0_2 a0_3 a0_4 a0_5 a0_6 a0_7 a0_8 a0_9 a1 a2 r)) {G : Gd} {r : (Int × Int × (List Int) × Int × (List Int) × Int × Int × (List Int) × Int × Int × Int)} {a0_0 : (List S45)} {a0_1_0 : (List Int)} {a0_1_1 : Int} {a0_1_2 : Int} {a0_2 : (List Int)} {a0_3 : Int} {a0_4 : Int} {a0_5 : (List Int)} {a0_6 : Int} {a0_7 : Int} {a0_8 : Int} {a0_9 : Int} {a1 : S45} {a2 : (List Int)} {b1 : Nat} {A2 : Option Addr} {c3 : Nat} {b6 : Nat} {A7 : Option Addr} {c8 : Nat} {A10 : Option Addr} {c11 : Nat} {A14 : Option Addr} {c15 : Nat} {A17 : Option Addr} {c18 : Nat} {A21 : Option Addr} {c22 : Nat} {n24 : Nat} (hr4 : Rd G k45 A2 a0_0) (hl5 : a0_0.length ≤ c3) (hr12 : Rd G (Kd.int .i64) A10 a0_2) (hl13 : a0_2.length ≤ c11) (hr19 : Rd G k42 A17 a1.f1) (hl20 : a1.f1.length ≤ c18) (h : trace_runner_call.g rec28 rec58 rec82 a0_0 a0_1_0 a0_1_1 a0_1_2 a0_2 a0_3 a0_4 a0_5 a0_6 a0_7 a0_8 a0_9 a1 a2 = some r) : Fn Try.prog 28 G [Blk b1 [.slice A2 a0_0.length c3, .pointer (some ⟨b6, 0, none⟩), .slice A10 a0_2.length c11, .int .i64 a0_3, .int .i64 a0_4, .slice A14 a0_5.length c15, .int .i64 a0_6, .int .i64 a0_7, .int .i64 a0_8, .int .i64 a0_9] 58, Blk b6 [.slice A7 a0_1_0.length c8, .int .i64 a0_1_1, .int .i64 a0_1_2] 89, Row (Kd.int .i64) 3 (.slice A7 a0_1_0.length c8) a0_1_0, Row (Kd.int .i64) 3 (.slice A14 a0_5.length c15) a0_5, Row (Kd.int .i64) 3 (.slice A21 n24 c22) a2] [.pointer (some ⟨b1, 0, none⟩), .agg #[.int .i64 a1.f0, .slice A17 a1.f1.length c18], .slice A21 n24 c22] (trace_runner_call.post G b1 A2 c3 b6 A7 c8 A10 c11 A14 c15 A17 c18 A21 c22 n24 a0_0 a0_1_0 a0_1_1 a0_1_2 a0_2 a0_3 a0_4 a0_5 a0_6 a0_7 a0_8 a0_9 a1 a2 r) := by
 refine Fn.intro (e := [(0, .pointer (some ⟨b1, 0, none⟩)), (1, .agg #[.int .i64 a1.f0, .slice A17 a1.f1.length c18]), (2, .slice A21 n24 c22)]) 79 Try.func28 rfl Try.ntmps28 rfl rfl (Nat.le_of_ble_eq_true rfl) (fun L => ?_)
 unfold trace_runner_call.g at h
 refine TC.seq ?_
 refine TC.region ?_
 refine TL.cons (TL.box (cs := [.pointer (some ⟨b1, 0, none⟩)]) rfl rfl rfl rfl (fun b25 => ?_))
 refine TL.cons (TL.box (cs := [.int .i64 a1.f0, .slice A17 a1.f1.length c18]) rfl rfl rfl rfl (fun b26 => ?_))
 refine TL.cons (TO.val rfl rfl rfl (Val.assign rfl) ?_)
 refine TL.cons (TO.val rfl rfl rfl (Val.assign rfl) ?_)
 refine TL.nil ?_
 refine TQ.then_ ?_
 refine TC.seq ?_
 refine TC.seq ?_
 refine TC.region ?_
 refine TL.cons (TO.val rfl rfl rfl (Val.loadB 1 agg56 rfl rfl rfl) ?_)
 refine TL.cons (TO.val rfl rfl rfl (Val.nilCheck rfl) ?_)
 refine TL.cons (TO.val rfl rfl rfl (Val.fieldAddrB Try.underlying58 rfl fsz3 rfl rfl rfl) ?_)
 refine TL.cons (TO.val rfl rfl rfl (Val.loadB 2 agg3 rfl rfl rfl) ?_)
 refine TL.cons (TO.val rfl rfl rfl (Val.cmp rfl rfl run_geq) ?_)
 refine TL.nil ?_
 refine TQ.then_ ?_
 refine TC.cond_p rfl h (fun hc28 h => ?_) (fun hc28 h => ?_)
 ·
  refine TC.seq ?_
  refine TC.region ?_
  refine TL.cons (TO.val rfl rfl rfl (Val.assign rfl) ?_)
  refine TL.cons (TO.val rfl rfl rfl (Val.assign rfl) ?_)
  refine TL.nil ?_
  refine TQ.then_ ?_
  refine TC.ret ?_
  refine TQ.thenR ?_
  obtain rfl := Option.some.inj h
  exact TQ.fin (.inl rfl) rfl Try.results28 (.tmp rfl (.tmp rfl .nil)) rfl (FRel.mk (Ls := [Blk b1 [.slice A2 a0_0.length c3, .pointer (some ⟨b6, 0, none⟩), .slice A10 a0_2.length c11, .int .i64 a0_3, .int .i64 a0_4, .slice A14 a0_5.length c15, .int .i64 a0_6, .int .i64 a0_7, .int .i64 a0_8, .int .i64 a0_9] 58, Blk b6 [.slice A7 a0_1_0.length c8, .int .i64 a0_1_1, .int .i64 a0_1_2] 89, Row (Kd.int .i64) 3 (.slice A7 a0_1_0.length c8) a0_1_0, Row (Kd.int .i64) 3 (.slice A14 a0_5.length c15) a0_5, Row (Kd.int .i64) 3 (.slice A21 n24 c22) a2]) [2, 3, 4, 5, 6] 7 (Gd.le.refl _) rfl rfl rfl ⟨rfl, A7, c8, A10, c11, A14, c15, rfl, rfl, hr12, hl13⟩)
 ·
  refine TC.skip ?_
  refine TQ.then_ ?_
  refine TC.seq ?_
  refine TC.region ?_
  refine TL.cons (TO.val rfl rfl rfl (Val.loadB 1 agg56 rfl rfl rfl) ?_)
  refine TL.cons (TO.val rfl rfl rfl (Val.nilCheck rfl) ?_)
  refine TL.cons (TO.val rfl rfl rfl (Val.fieldAddrB Try.underlying58 rfl fsz3 rfl rfl rfl) ?_)
  refine TL.cons (TO.val rfl rfl rfl (Val.loadB 2 agg3 rfl rfl rfl) ?_)
  refine TL.cons (TO.val rfl rfl rfl (Val.cmp rfl rfl run_add) ?_)
  refine TL.cons (TO.val rfl rfl rfl (Val.nilCheck rfl) ?_)
  refine TL.cons (TO.val rfl rfl rfl (Val.fieldAddrB Try.underlying58 rfl fsz3 rfl rfl rfl) ?_)
  refine TL.cons (TL.store 2 (ds := [.int .i64 (IntKind.i64.wrap (a0_4 + 1))]) (cs' := [.slice A2 a0_0.length c3, .pointer (some ⟨b6, 0, none⟩), .slice A10 a0_2.length c11, .int .i64 a0_3, .int .i64 (IntKind.i64.wrap (a0_4 + 1)), .slice A14 a0_5.length c15, .int .i64 a0_6, .int .i64 a0_7, .int .i64 a0_8, .int .i64 a0_9]) (L' := (Blk b26 [.int .i64 a1.f0, .slice A17 a1.f1.length c18] 45 :: Blk b25 [.pointer (some ⟨b1, 0, none⟩)] 56 :: Blk b1 [.slice A2 a0_0.length c3, .pointer (some ⟨b6, 0, none⟩), .slice A10 a0_2.length c11, .int .i64 a0_3, .int .i64 (IntKind.i64.wrap (a0_4 + 1)), .slice A14 a0_5.length c15, .int .i64 a0_6, .int .i64 a0_7, .int .i64 a0_8, .int .i64 a0_9] 58 :: Blk b6 [.slice A7 a0_1_0.length c8, .int .i64 a0_1_1, .int .i64 a0_1_2] 89 :: Row (Kd.int .i64) 3 (.slice A7 a0_1_0.length c8) a0_1_0 :: Row (Kd.int .i64) 3 (.slice A14 a0_5.length c15) a0_5 :: Row (Kd.int .i64) 3 (.slice A21 n24 c22) a2 :: L)) rfl fsz3 rfl rfl rfl rfl rfl (Nat.le_of_ble_eq_true rfl) rfl rfl ?_)
  refine TL.nil ?_
  refine TQ.then_ ?_
  refine TC.seq ?_
  refine TC.region ?_
  refine TL.cons (TO.val rfl rfl rfl (Val.makeFunc (xs := []) (ys := [.pointer (some ⟨b25, 0, none⟩)]) rfl rfl) ?_)
  refine TL.cons (TO.defer (vs := []) rfl rfl rfl ?_)
  refine TL.nil ?_
  refine TQ.then_ ?_
  refine TC.seq ?_
  refine TC.region ?_
  refine TL.cons (TO.val rfl rfl rfl (Val.loadsB 0 (cs := [.int .i64 a1.f0, .slice A17 a1.f1.length c18]) agg45 fsz45 rfl rfl rfl rfl) ?_)
  obtain ⟨y29, hy30, h⟩ := bind_no h
  refine TL.cons (TL.callV (Lin := []) (args := [.agg #[.int .i64 a1.f0, .slice A17 a1.f1.length c18]]) rfl rfl rfl hbd57 rfl rfl (code_Regs.calls (a0 := a1) hr19 hl20 hy30) rfl ?_)
  rintro _ _ _ _ ⟨rfl, rfl, rfl⟩
  refine TL.cons (TO.val rfl rfl rfl (Val.cmp rfl rfl run_add) ?_)
  obtain ⟨ha31, h⟩ := ite_no h
  refine TL.cons (TL.make (Kd.int .i64) rfl rfl Try.underlying23 inf3 rfl (Nat.le_of_ble_eq_true rfl) (Nat.le_of_ble_eq_true rfl) rfl rfl (fun W B => rfl) ha31.1 (by have h_ := ha31.2; omega) (fun A32 c33 => ?_))
  refine TL.cons (TO.val rfl rfl rfl (Val.assign rfl) ?_)
  refine TL.nil ?_
  refine TQ.then_ ?_
  refine TC.seq ?_
  refine TC.region ?_
  refine TL.cons (TO.val rfl rfl rfl (Val.move rfl) ?_)
  obtain ⟨hz35, h⟩ := ite_no h
  refine TL.cons (TO.val rfl rfl rfl (Val.cutOwn 0 Try.underlying23 fsz3 rfl rfl rfl hz35.1 hz35.2.1 hz35.2.2 rfl) ?_)
  refine TL.cons (TO.val rfl rfl rfl (Val.move rfl) ?_)
  refine TK.rowlen 7 rfl (fun hl36 => ?_)
  refine TK.sel (Ls := [Row (Kd.int .i64) 3 (.slice A21 n24 c22) a2, Row (Kd.int .i64) 3 (.slice A32 (List.replicate (IntKind.i64.wrap (y29 + 1)).toNat (0 : Int)).length c33) (List.replicate (IntKind.i64.wrap (y29 + 1)).toNat (0 : Int)), Blk b26 [.int .i64 a1.f0, .slice A17 a1.f1.length c18] 45, Blk b25 [.pointer (some ⟨b1, 0, none⟩)] 56, Blk b1 [.slice A2 a0_0.length c3, .pointer (some ⟨b6, 0, none⟩), .slice A10 a0_2.length c11, .int .i64 a0_3, .int .i64 (IntKind.i64.wrap (a0_4 + 1)), .slice A14 a0_5.length c15, .int .i64 a0_6, .int .i64 a0_7, .int .i64 a0_8, .int .i64 a0_9] 58, Blk b6 [.slice A7 a0_1_0.length c8, .int .i64 a0_1_1, .int .i64 a0_1_2] 89, Row (Kd.int .i64) 3 (.slice A7 a0_1_0.length c8) a0_1_0, Row (Kd.int .i64) 3 (.slice A14 a0_5.length c15) a0_5]) [7, 0, 1, 2, 3, 4, 5, 6] 8 rfl rfl rfl ?_
  refine TK.share (fun G37 e38 hs39 hb40 => ?_)
  have rd41 : Rd G37 (Kd.int .i64) A21 a2 := Rd.row hs39
  have le42 : a2.length ≤ c22 := Row.le hs39
  obtain ⟨y43, hy44, h⟩ := bind_no h
  refine TL.cons (TL.copyInD (l := (1 : Int)) (h := ((List.replicate (IntKind.i64.wrap (y29 + 1)).toNat (0 : Int)).length : Int)) (xs := (List.replicate (IntKind.i64.wrap (y29 + 1)).toNat (0 : Int))) (ys := a2) rfl rfl Try.underlying23 fsz3 rfl rfl (by first | rfl | omega) hz35.1 hz35.2.1 hz35.2.2 rd41 hy44 (fun v45 => ?_))
  refine TK.rowlen 0 rfl (fun hl46 => ?_)
  rw [hl46]
  refine TL.nil ?_
  refine TQ.then_ ?_
  refine TC.seq ?_
  refine TC.region ?_
  refine TL.cons (TO.val rfl rfl rfl (Val.assign rfl) ?_)
  refine TL.nil ?_
  refine TQ.then_ ?_
  refine TC.back hb40 ?_
  obtain ⟨o1541, ho1541, ko1541⟩ := bind_no h
  clear h
  refine TC.tail (fun a W => False) (fun a W h => h.elim) ?_
  ·
   refine TC.block ?_
   intro a W hF hO
   have hS : ∃ (l1035 : (List Int)) (x1039 : Int) (l1040 : (List Int)) (x1045 : Int) (x1046 : Int) (l1047 : (List Int)) (x1051 : Int) (x1052 : Int) (x1053 : Int) (l1054 : (List Int)) (x1058 : Int) (A1036 : Option Addr) (c1037 : Nat) (A1041 : Option Addr) (c1042 : Nat) (A1048 : Option Addr) (c1049 : Nat) (A1055 : Option Addr) (c1056 : Nat), trace_runner_call.l0 rec58 a0_0 a0_1_2 a0_6 a1 100000 l1035 x1039 l1040 x1045 x1046 l1047 x1051 x1052 x1053 l1054 x1058 = some o1541 ∧ Rd G (Kd.int .i64) A1041 l1040 ∧ l1040.length ≤ c1042 ∧ Fr (⟨79, [{ target := .fn (.func 56) #[.pointer (some ⟨b25, 0, none⟩)], args := #[] }]⟩ : Nd) a [(3, .pointer (some ⟨b25, 0, none⟩)), (4, .pointer (some ⟨b26, 0, none⟩)), (8, .slice A1036 l1035.length c1037), (9, .int .i64 x1039)] ∧ Own G (Blk b1 [.slice A2 a0_0.length c3, .pointer (some ⟨b6, 0, none⟩), .slice A1041 l1040.length c1042, .int .i64 x1045, .int .i64 x1046, .slice A1048 l1047.length c1049, .int .i64 a0_6, .int .i64 x1051, .int .i64 x1052, .int .i64 x1053] 58 :: Blk b25 [.pointer (some ⟨b1, 0, none⟩)] 56 :: Blk b26 [.int .i64 a1.f0, .slice A17 a1.f1.length c18] 45 :: Blk b6 [.slice A1055 l1054.length c1056, .int .i64 x1058, .int .i64 a0_1_2] 89 :: Row (Kd.int .i64) 3 (.slice A1036 l1035.length c1037) l1035 :: Row (Kd.int .i64) 3 (.slice A1048 l1047.length c1049) l1047 :: Row (Kd.int .i64) 3 (.slice A1055 l1054.length c1056) l1054 :: Row (Kd.int .i64) 3 (.slice A21 n24 c22) a2 :: L) W := by
    exact ⟨y43, 0, a0_2, a0_3, IntKind.i64.wrap (a0_4 + 1), a0_5, a0_7, a0_8, a0_9, a0_1_0, a0_1_1, A32, c33, A10, c11, A14, c15, A7, c8, ho1541, hr12, hl13, hF.sub ⟨rfl, rfl, rfl, rfl, trivial⟩, hO.selT (Ls := [Blk b1 [.slice A2 a0_0.length c3, .pointer (some ⟨b6, 0, none⟩), .slice A10 a0_2.length c11, .int .i64 a0_3, .int .i64 (IntKind.i64.wrap (a0_4 + 1)), .slice A14 a0_5.length c15, .int .i64 a0_6, .int .i64 a0_7, .int .i64 a0_8, .int .i64 a0_9] 58, Blk b25 [.pointer (some ⟨b1, 0, none⟩)] 56, Blk b26 [.int .i64 a1.f0, .slice A17 a1.f1.length c18] 45, Blk b6 [.slice A7 a0_1_0.length c8, .int .i64 a0_1_1, .int .i64 a0_1_2] 89, Row (Kd.int .i64) 3 (.slice A32 y43.length c33) y43, Row (Kd.int .i64) 3 (.slice A14 a0_5.length c15) a0_5, Row (Kd.int .i64) 3 (.slice A7 a0_1_0.length c8) a0_1_0, Row (Kd.int .i64) 3 (.slice A21 n24 c22) a2]) [4, 3, 2, 5, 1, 7, 6, 0] 8 rfl rfl rfl⟩
   clear hF hO ho1541
   refine TC.loop (fun n1542 a W => ∃ (l1035 : (List Int)) (x1039 : Int) (l1040 : (List Int)) (x1045 : Int) (x1046 : Int) (l1047 : (List Int)) (x1051 : Int) (x1052 : Int) (x1053 : Int) (l1054 : (List Int)) (x1058 : Int) (A1036 : Option Addr) (c1037 : Nat) (A1041 : Option Addr) (c1042 : Nat) (A1048 : Option Addr) (c1049 : Nat) (A1055 : Option Addr) (c1056 : Nat), trace_runner_call.l0 rec58 a0_0 a0_1_2 a0_6 a1 n1542 l1035 x1039 l1040 x1045 x1046 l1047 x1051 x1052 x1053 l1054 x1058 = some o1541 ∧ Rd G (Kd.int .i64) A1041 l1040 ∧ l1040.length ≤ c1042 ∧ Fr (⟨79, [{ target := .fn (.func 56) #[.pointer (some ⟨b25, 0, none⟩)], args := #[] }]⟩ : Nd) a [(3, .pointer (some ⟨b25, 0, none⟩)), (4, .pointer (some ⟨b26, 0, none⟩)), (8, .slice A1036 l1035.length c1037), (9, .int .i64 x1039)] ∧ Own G (Blk b1 [.slice A2 a0_0.length c3, .pointer (some ⟨b6, 0, none⟩), .slice A1041 l1040.length c1042, .int .i64 x1045, .int .i64 x1046, .slice A1048 l1047.length c1049, .int .i64 a0_6, .int .i64 x1051, .int .i64 x1052, .int .i64 x1053] 58 :: Blk b25 [.pointer (some ⟨b1, 0, none⟩)] 56 :: Blk b26 [.int .i64 a1.f0, .slice A17 a1.f1.length c18] 45 :: Blk b6 [.slice A1055 l1054.length c1056, .int .i64 x1058, .int .i64 a0_1_2] 89 :: Row (Kd.int .i64) 3 (.slice A1036 l1035.length c1037) l1035 :: Row (Kd.int .i64) 3 (.slice A1048 l1047.length c1049) l1047 :: Row (Kd.int .i64) 3 (.slice A1055 l1054.length c1056) l1054 :: Row (Kd.int .i64) 3 (.slice A21 n24 c22) a2 :: L) W) ?_ ?_ hS
   ·
    rintro a W ⟨l1035, x1039, l1040, x1045, x1046, l1047, x1051, x1052, x1053, l1054, x1058, A1036, c1037, A1041, c1042, A1048, c1049, A1055, c1056, h, hr1043, hl1044, hF, hO⟩
    exact none_no h
   ·
    clear hS
    rintro n1542 a W ⟨l1035, x1039, l1040, x1045, x1046, l1047, x1051, x1052, x1053, l1054, x1058, A1036, c1037, A1041, c1042, A1048, c1049, A1055, c1056, h, hr1043, hl1044, hF, hO⟩
    rw [trace_runner_call.l0] at h
    refine TC.use ?_ hF hO
    clear hF hO
    refine TC.block ?_
    refine TC.seq ?_
    refine TC.region ?_
    refine TL.cons (TO.val rfl rfl rfl (Val.fieldAddrB Try.underlying45 rfl fsz43 rfl rfl rfl) ?_)
    refine TL.cons (TO.val rfl rfl rfl (Val.loadB 2 agg43 rfl rfl rfl) ?_)
    refine TL.cons (TO.val rfl rfl rfl (Val.move rfl) ?_)
    obtain ⟨y2320, hx2321, h⟩ := bind_no h
    obtain ⟨ad2322, cs2328, hA2323, hi2324, hj2325, hcl2326, hK2327⟩ := Rd.at hr19 hx2321
    obtain ⟨A2329, c2330, rfl, hr2331, hl2332⟩ := k42_openR hK2327
    refine TL.cons (TO.val rfl rfl rfl (Val.indexAddr Try.underlying43 fsz42 rfl hA2323 rfl hi2324 hj2325) ?_)
    refine TL.cons (TO.val rfl rfl rfl (Val.loadsS (cs := [.slice A2329 y2320.f0.length c2330, .int .i64 y2320.f1.f0, .int .i64 y2320.f1.f1, .int .i64 y2320.f1.f2, .int .i64 y2320.f1.f3]) agg42 fsz42 rfl rfl (Cl.sub (off := 0) (n := 5) hcl2326 rfl)) ?_)
    refine TL.cons (TL.alloc (cs := [.slice none 0 0, .int .i64 0, .int .i64 0, .int .i64 0, .int .i64 0]) rfl rfl zr42 rfl (fun b2333 => ?_))
    refine TL.cons (TL.store 0 (ds := [.slice A2329 y2320.f0.length c2330, .int .i64 y2320.f1.f0, .int .i64 y2320.f1.f1, .int .i64 y2320.f1.f2, .int .i64 y2320.f1.f3]) (cs' := [.slice A2329 y2320.f0.length c2330, .int .i64 y2320.f1.f0, .int .i64 y2320.f1.f1, .int .i64 y2320.f1.f2, .int .i64 y2320.f1.f3]) (L' := (Blk b2333 [.slice A2329 y2320.f0.length c2330, .int .i64 y2320.f1.f0, .int .i64 y2320.f1.f1, .int .i64 y2320.f1.f2, .int .i64 y2320.f1.f3] 42 :: Blk b1 [.slice A2 a0_0.length c3, .pointer (some ⟨b6, 0, none⟩), .slice A1041 l1040.length c1042, .int .i64 x1045, .int .i64 x1046, .slice A1048 l1047.length c1049, .int .i64 a0_6, .int .i64 x1051, .int .i64 x1052, .int .i64 x1053] 58 :: Blk b25 [.pointer (some ⟨b1, 0, none⟩)] 56 :: Blk b26 [.int .i64 a1.f0, .slice A17 a1.f1.length c18] 45 :: Blk b6 [.slice A1055 l1054.length c1056, .int .i64 x1058, .int .i64 a0_1_2] 89 :: Row (Kd.int .i64) 3 (.slice A1036 l1035.length c1037) l1035 :: Row (Kd.int .i64) 3 (.slice A1048 l1047.length c1049) l1047 :: Row (Kd.int .i64) 3 (.slice A1055 l1054.length c1056) l1054 :: Row (Kd.int .i64) 3 (.slice A21 n24 c22) a2 :: L)) rfl fsz42 rfl rfl rfl rfl rfl (Nat.le_of_ble_eq_true rfl) rfl rfl ?_)
    refine TL.nil ?_
    refine TQ.then_ ?_
    refine TC.seq ?_
    refine TC.seq ?_
    refine TC.region ?_
    refine TL.cons (TO.val rfl rfl rfl (Val.loadB 2 agg56 rfl rfl rfl) ?_)
    refine TL.cons (TO.val rfl rfl rfl (Val.loadsB 0 (cs := [.slice A2329 y2320.f0.length c2330, .int .i64 y2320.f1.f0, .int .i64 y2320.f1.f1, .int .i64 y2320.f1.f2, .int .i64 y2320.f1.f3]) agg42 fsz42 rfl rfl rfl rfl) ?_)
    refine TL.cons (TO.val rfl rfl rfl (Val.move rfl) ?_)
    refine TK.sel (Ls := [Blk b1 [.slice A2 a0_0.length c3, .pointer (some ⟨b6, 0, none⟩), .slice A1041 l1040.length c1042, .int .i64 x1045, .int .i64 x1046, .slice A1048 l1047.length c1049, .int .i64 a0_6, .int .i64 x1051, .int .i64 x1052, .int .i64 x1053] 58, Blk b6 [.slice A1055 l1054.length c1056, .int .i64 x1058, .int .i64 a0_1_2] 89, Row (Kd.int .i64) 3 (.slice A1055 l1054.length c1056) l1054, Row (Kd.int .i64) 3 (.slice A1048 l1047.length c1049) l1047, Row (Kd.int .i64) 3 (.slice A1036 l1035.length c1037) l1035, Blk b2333 [.slice A2329 y2320.f0.length c2330, .int .i64 y2320.f1.f0, .int .i64 y2320.f1.f1, .int .i64 y2320.f1.f2, .int .i64 y2320.f1.f3] 42, Blk b25 [.pointer (some ⟨b1, 0, none⟩)] 56, Blk b26 [.int .i64 a1.f0, .slice A17 a1.f1.length c18] 45, Row (Kd.int .i64) 3 (.slice A21 n24 c22) a2]) [1, 4, 7, 6, 5, 0, 2, 3, 8] 9 rfl rfl rfl ?_
    obtain ⟨y2334, hy2335, h⟩ := bind_no h
    refine TL.cons (TL.callV (Lin := [Blk b1 [.slice A2 a0_0.length c3, .pointer (some ⟨b6, 0, none⟩), .slice A1041 l1040.length c1042, .int .i64 x1045, .int .i64 x1046, .slice A1048 l1047.length c1049, .int .i64 a0_6, .int .i64 x1051, .int .i64 x1052, .int .i64 x1053] 58, Blk b6 [.slice A1055 l1054.length c1056, .int .i64 x1058, .int .i64 a0_1_2] 89, Row (Kd.int .i64) 3 (.slice A1055 l1054.length c1056) l1054, Row (Kd.int .i64) 3 (.slice A1048 l1047.length c1049) l1047, Row (Kd.int .i64) 3 (.slice A1036 l1035.length c1037) l1035]) (args := [.pointer (some ⟨b1, 0, none⟩), .agg #[.slice A2329 y2320.f0.length c2330, .int .i64 y2320.f1.f0, .int .i64 y2320.f1.f1, .int .i64 y2320.f1.f2, .int .i64 y2320.f1.f3], .slice A1036 l1035.length c1037]) rfl rfl rfl hbd58 rfl rfl (ih58 (a0_0 := a0_0) (a0_1_0 := l1054) (a0_1_1 := x1058) (a0_1_2 := a0_1_2) (a0_2 := l1040) (a0_3 := x1045) (a0_4 := x1046) (a0_5 := l1047) (a0_6 := a0_6) (a0_7 := x1051) (a0_8 := x1052) (a0_9 := x1053) (a1 := y2320) (a2 := l1035) hr4 hl5 hr1043 hl1044 hr2331 hl2332 hy2335) rfl ?_)
    rintro _ _ _ _ ⟨rfl, A2336, c2337, A2339, c2340, A2343, c2344, rfl, rfl, hr2341, hl2342⟩
    refine TK.rowlen 4 rfl (fun hl2346 => ?_)
    rw [hl2346]
    refine TL.cons (TO.val rfl rfl rfl (Val.assign rfl) ?_)
    refine TL.nil ?_
    refine TQ.then_ ?_
    refine TC.seq ?_
    refine TC.region ?_
    refine TL.cons (TO.val rfl rfl rfl (Val.move rfl) ?_)
    refine TL.cons (TO.val rfl rfl rfl (Val.cmp rfl rfl run_neq) ?_)
    refine TL.nil ?_
    refine TQ.then_ ?_
    refine TC.cond_b rfl h (fun hc2348 h => ?_) (fun hc2348 h => ?_)
    ·
     refine TC.seq ?_
     refine TC.region ?_
     refine TL.cons (TO.val rfl rfl rfl (Val.move rfl) ?_)
     refine TL.cons (TO.val rfl rfl rfl (Val.assign rfl) ?_)
     refine TL.cons (TO.val rfl rfl rfl (Val.assign rfl) ?_)
     refine TL.nil ?_
     refine TQ.then_ ?_
     refine TC.ret ?_
     refine TQ.thenR ?_
     refine TQ.inBR ?_
     refine TQ.thenR ?_
     refine TQ.inBR ?_
     refine TQ.thenR ?_
     refine TQ.finL (ds := ((⟨79, [{ target := .fn (.func 56) #[.pointer (some ⟨b25, 0, none⟩)], args := #[] }]⟩ : Nd)).D) (.inl rfl) rfl (fun a_ hx2349 => ?_)
     refine Lv.fn (args := [.pointer (some ⟨b25, 0, none⟩)]) (e' := [(0, .pointer (some ⟨b25, 0, none⟩))]) 8 hbd56 Try.func56 rfl Try.ntmps56 rfl rfl rfl (Nat.le_of_ble_eq_true rfl) ?_
     refine TC.region ?_
     refine TL.cons (TO.val rfl rfl rfl (Val.loadB 6 agg56 rfl rfl rfl) ?_)
     refine TL.cons (TO.val rfl rfl rfl (Val.nilCheck rfl) ?_)
     refine TL.cons (TO.val rfl rfl rfl (Val.fieldAddrB Try.underlying58 rfl fsz3 rfl rfl rfl) ?_)
     refine TL.cons (TO.val rfl rfl rfl (Val.loadB 0 agg3 rfl rfl rfl) ?_)
     refine TL.cons (TO.val rfl rfl rfl (Val.cmp rfl rfl run_sub) ?_)
     refine TL.cons (TO.val rfl rfl rfl (Val.nilCheck rfl) ?_)
     refine TL.cons (TO.val rfl rfl rfl (Val.fieldAddrB Try.underlying58 rfl fsz3 rfl rfl rfl) ?_)
     refine TL.cons (TL.store 0 (ds := [.int .i64 (IntKind.i64.wrap (y2334.2.2.2.2.2.1 - 1))]) (cs' := [.slice A2 a0_0.length c3, .pointer (some ⟨b6, 0, none⟩), .slice A2339 y2334.2.2.2.1.length c2340, .int .i64 y2334.2.2.2.2.1, .int .i64 (IntKind.i64.wrap (y2334.2.2.2.2.2.1 - 1)), .slice A2343 y2334.2.2.2.2.2.2.1.length c2344, .int .i64 a0_6, .int .i64 y2334.2.2.2.2.2.2.2.1, .int .i64 y2334.2.2.2.2.2.2.2.2.1, .int .i64 y2334.2.2.2.2.2.2.2.2.2.1]) (L' := (Blk b1 [.slice A2 a0_0.length c3, .pointer (some ⟨b6, 0, none⟩), .slice A2339 y2334.2.2.2.1.length c2340, .int .i64 y2334.2.2.2.2.1, .int .i64 (IntKind.i64.wrap (y2334.2.2.2.2.2.1 - 1)), .slice A2343 y2334.2.2.2.2.2.2.1.length c2344, .int .i64 a0_6, .int .i64 y2334.2.2.2.2.2.2.2.1, .int .i64 y2334.2.2.2.2.2.2.2.2.1, .int .i64 y2334.2.2.2.2.2.2.2.2.2.1] 58 :: Blk b6 [.slice A2336 y2334.2.1.length c2337, .int .i64 y2334.2.2.1, .int .i64 a0_1_2] 89 :: Row (Kd.int .i64) 3 (.slice A2336 y2334.2.1.length c2337) y2334.2.1 :: Row (Kd.int .i64) 3 (.slice A2343 y2334.2.2.2.2.2.2.1.length c2344) y2334.2.2.2.2.2.2.1 :: Row (Kd.int .i64) 3 (.slice A1036 y2334.2.2.2.2.2.2.2.2.2.2.length c1037) y2334.2.2.2.2.2.2.2.2.2.2 :: Blk b2333 [.slice A2329 y2320.f0.length c2330, .int .i64 y2320.f1.f0, .int .i64 y2320.f1.f1, .int .i64 y2320.f1.f2, .int .i64 y2320.f1.f3] 42 :: Blk b25 [.pointer (some ⟨b1, 0, none⟩)] 56 :: Blk b26 [.int .i64 a1.f0, .slice A17 a1.f1.length c18] 45 :: Row (Kd.int .i64) 3 (.slice A21 n24 c22) a2 :: L)) rfl fsz3 rfl rfl rfl rfl rfl (Nat.le_of_ble_eq_true rfl) rfl rfl ?_)
     refine TL.nil ?_
     refine TQ.finD (.inr rfl) rfl Try.results56 .nil ?_
     obtain rfl := Option.some.inj h
     have h := ko1541
     obtain rfl := Option.some.inj h
     exact Lv.nil hx2349 Try.results28 (.tmp rfl (.tmp rfl .nil)) rfl (FRel.mk (Ls := [Blk b1 [.slice A2 a0_0.length c3, .pointer (some ⟨b6, 0, none⟩), .slice A2339 y2334.2.2.2.1.length c2340, .int .i64 y2334.2.2.2.2.1, .int .i64 (IntKind.i64.wrap (y2334.2.2.2.2.2.1 - 1)), .slice A2343 y2334.2.2.2.2.2.2.1.length c2344, .int .i64 a0_6, .int .i64 y2334.2.2.2.2.2.2.2.1, .int .i64 y2334.2.2.2.2.2.2.2.2.1, .int .i64 y2334.2.2.2.2.2.2.2.2.2.1] 58, Blk b6 [.slice A2336 y2334.2.1.length c2337, .int .i64 y2334.2.2.1, .int .i64 a0_1_2] 89, Row (Kd.int .i64) 3 (.slice A2336 y2334.2.1.length c2337) y2334.2.1, Row (Kd.int .i64) 3 (.slice A2343 y2334.2.2.2.2.2.2.1.length c2344) y2334.2.2.2.2.2.2.1, Row (Kd.int .i64) 3 (.slice A21 n24 c22) a2]) [0, 1, 2, 3, 8] 9 (Gd.le.refl _) rfl rfl rfl ⟨rfl, A2336, c2337, A2339, c2340, A2343, c2344, rfl, rfl, hr2341, hl2342⟩)
    ·
     refine TC.skip ?_
     refine TQ.then_ ?_
     refine TC.seq ?_
     refine TC.region ?_
     refine TL.cons (TO.val rfl rfl rfl (Val.fieldAddrB Try.underlying42 rfl fsz40 rfl rfl rfl) ?_)
     refine TL.cons (TO.val rfl rfl rfl (Val.loadsB 5 (cs := [.int .i64 y2320.f1.f0, .int .i64 y2320.f1.f1, .int .i64 y2320.f1.f2, .int .i64 y2320.f1.f3]) agg40 fsz40 rfl rfl rfl rfl) ?_)
     refine TL.cons (TL.alloc (cs := [.int .i64 0, .int .i64 0, .int .i64 0, .int .i64 0]) rfl rfl zr40 rfl (fun b2350 => ?_))
     refine TL.cons (TL.store 0 (ds := [.int .i64 y2320.f1.f0, .int .i64 y2320.f1.f1, .int .i64 y2320.f1.f2, .int .i64 y2320.f1.f3]) (cs' := [.int .i64 y2320.f1.f0, .int .i64 y2320.f1.f1, .int .i64 y2320.f1.f2, .int .i64 y2320.f1.f3]) (L' := (Blk b2350 [.int .i64 y2320.f1.f0, .int .i64 y2320.f1.f1, .int .i64 y2320.f1.f2, .int .i64 y2320.f1.f3] 40 :: Blk b1 [.slice A2 a0_0.length c3, .pointer (some ⟨b6, 0, none⟩), .slice A2339 y2334.2.2.2.1.length c2340, .int .i64 y2334.2.2.2.2.1, .int .i64 y2334.2.2.2.2.2.1, .slice A2343 y2334.2.2.2.2.2.2.1.length c2344, .int .i64 a0_6, .int .i64 y2334.2.2.2.2.2.2.2.1, .int .i64 y2334.2.2.2.2.2.2.2.2.1, .int .i64 y2334.2.2.2.2.2.2.2.2.2.1] 58 :: Blk b6 [.slice A2336 y2334.2.1.length c2337, .int .i64 y2334.2.2.1, .int .i64 a0_1_2] 89 :: Row (Kd.int .i64) 3 (.slice A2336 y2334.2.1.length c2337) y2334.2.1 :: Row (Kd.int .i64) 3 (.slice A2343 y2334.2.2.2.2.2.2.1.length c2344) y2334.2.2.2.2.2.2.1 :: Row (Kd.int .i64) 3 (.slice A1036 y2334.2.2.2.2.2.2.2.2.2.2.length c1037) y2334.2.2.2.2.2.2.2.2.2.2 :: Blk b2333 [.slice A2329 y2320.f0.length c2330, .int .i64 y2320.f1.f0, .int .i64 y2320.f1.f1, .int .i64 y2320.f1.f2, .int .i64 y2320.f1.f3] 42 :: Blk b25 [.pointer (some ⟨b1, 0, none⟩)] 56 :: Blk b26 [.int .i64 a1.f0, .slice A17 a1.f1.length c18] 45 :: Row (Kd.int .i64) 3 (.slice A21 n24 c22) a2 :: L)) rfl fsz40 rfl rfl rfl rfl rfl (Nat.le_of_ble_eq_true rfl) rfl rfl ?_)
     refine TL.nil ?_
     refine TQ.then_ ?_
     refine TC.block ?_
     refine TC.seq ?_
     refine TC.region ?_
     refine TL.cons (TO.val rfl rfl rfl (Val.fieldAddrB Try.underlying40 rfl fsz3 rfl rfl rfl) ?_)
     refine TL.cons (TO.val rfl rfl rfl (Val.loadB 0 agg3 rfl rfl rfl) ?_)
     refine TL.cons (TO.val rfl rfl rfl (Val.cmp rfl rfl run_eql) ?_)
     refine TL.cons (TO.val rfl rfl rfl (Val.assign rfl) ?_)
     refine TL.nil ?_
     refine TQ.then_ ?_
     refine TC.cond_p rfl h (fun hc2562 h => ?_) (fun hc2562 h => ?_)
     ·
      refine TC.seq ?_
      refine TC.region ?_
      refine TL.cons (TO.val rfl rfl rfl (Val.move rfl) ?_)
      refine TL.cons (TO.val rfl rfl rfl (Val.fieldAddrB Try.underlying40 rfl fsz3 rfl rfl rfl) ?_)
      refine TL.cons (TO.val rfl rfl rfl (Val.loadB 0 agg3 rfl rfl rfl) ?_)
      refine TK.sel (Ls := [Row (Kd.int .i64) 3 (.slice A1036 y2334.2.2.2.2.2.2.2.2.2.2.length c1037) y2334.2.2.2.2.2.2.2.2.2.2, Blk b2350 [.int .i64 y2320.f1.f0, .int .i64 y2320.f1.f1, .int .i64 y2320.f1.f2, .int .i64 y2320.f1.f3] 40, Blk b1 [.slice A2 a0_0.length c3, .pointer (some ⟨b6, 0, none⟩), .slice A2339 y2334.2.2.2.1.length c2340, .int .i64 y2334.2.2.2.2.1, .int .i64 y2334.2.2.2.2.2.1, .slice A2343 y2334.2.2.2.2.2.2.1.length c2344, .int .i64 a0_6, .int .i64 y2334.2.2.2.2.2.2.2.1, .int .i64 y2334.2.2.2.2.2.2.2.2.1, .int .i64 y2334.2.2.2.2.2.2.2.2.2.1] 58, Blk b6 [.slice A2336 y2334.2.1.length c2337, .int .i64 y2334.2.2.1, .int .i64 a0_1_2] 89, Row (Kd.int .i64) 3 (.slice A2336 y2334.2.1.length c2337) y2334.2.1, Row (Kd.int .i64) 3 (.slice A2343 y2334.2.2.2.2.2.2.1.length c2344) y2334.2.2.2.2.2.2.1, Blk b2333 [.slice A2329 y2320.f0.length c2330, .int .i64 y2320.f1.f0, .int .i64 y2320.f1.f1, .int .i64 y2320.f1.f2, .int .i64 y2320.f1.f3] 42, Blk b25 [.pointer (some ⟨b1, 0, none⟩)] 56, Blk b26 [.int .i64 a1.f0, .slice A17 a1.f1.length c18] 45, Row (Kd.int .i64) 3 (.slice A21 n24 c22) a2]) [5, 0, 1, 2, 3, 4, 6, 7, 8, 9] 10 rfl rfl rfl ?_
      refine TK.share (fun G2563 e2564 hs2565 hb2566 => ?_)
      have rd2567 : Rd G2563 (Kd.int .i64) A1036 y2334.2.2.2.2.2.2.2.2.2.2 := Rd.row hs2565
      have le2568 : y2334.2.2.2.2.2.2.2.2.2.2.length ≤ c1037 := Row.le hs2565
      obtain ⟨y2569, hx2570, h⟩ := bind_no h
      obtain ⟨ad2571, cs2577, hA2572, hi2573, hj2574, hcl2575, hK2576⟩ := Rd.at rd2567 hx2570
      obtain rfl := RdK.int hK2576
      refine TL.cons (TO.val rfl rfl rfl (Val.indexAddr Try.underlying23 fsz3 rfl hA2572 rfl hi2573 hj2574) ?_)
      refine TL.cons (TO.val rfl rfl rfl (Val.loadS agg3 rfl (hcl2575 0 _ rfl)) ?_)
      refine TL.cons (TO.val rfl rfl rfl (Val.assign rfl) ?_)
      refine TL.cons (TO.val rfl rfl rfl (Val.assign rfl) ?_)
      refine TL.nil ?_
      refine TQ.then_ ?_
      refine TC.ret ?_
      refine TQ.inBR ?_
      refine TQ.inBR ?_
      refine TQ.thenR ?_
      refine TQ.inBR ?_
      refine TQ.thenR ?_
      refine TQ.back hb2566 ?_
      refine TQ.finL (ds := ((⟨79, [{ target := .fn (.func 56) #[.pointer (some ⟨b25, 0, none⟩)], args := #[] }]⟩ : Nd)).D) (.inl rfl) rfl (fun a_ hx2578 => ?_)
      refine Lv.fn (args := [.pointer (some ⟨b25, 0, none⟩)]) (e' := [(0, .pointer (some ⟨b25, 0, none⟩))]) 8 hbd56 Try.func56 rfl Try.ntmps56 rfl rfl rfl (Nat.le_of_ble_eq_true rfl) ?_
      refine TC.region ?_
      refine TL.cons (TO.val rfl rfl rfl (Val.loadB 7 agg56 rfl rfl rfl) ?_)
      refine TL.cons (TO.val rfl rfl rfl (Val.nilCheck rfl) ?_)
      refine TL.cons (TO.val rfl rfl rfl (Val.fieldAddrB Try.underlying58 rfl fsz3 rfl rfl rfl) ?_)
      refine TL.cons (TO.val rfl rfl rfl (Val.loadB 2 agg3 rfl rfl rfl) ?_)
      refine TL.cons (TO.val rfl rfl rfl (Val.cmp rfl rfl run_sub) ?_)
      refine TL.cons (TO.val rfl rfl rfl (Val.nilCheck rfl) ?_)
      refine TL.cons (TO.val rfl rfl rfl (Val.fieldAddrB Try.underlying58 rfl fsz3 rfl rfl rfl) ?_)
      refine TL.cons (TL.store 2 (ds := [.int .i64 (IntKind.i64.wrap (y2334.2.2.2.2.2.1 - 1))]) (cs' := [.slice A2 a0_0.length c3, .pointer (some ⟨b6, 0, none⟩), .slice A2339 y2334.2.2.2.1.length c2340, .int .i64 y2334.2.2.2.2.1, .int .i64 (IntKind.i64.wrap (y2334.2.2.2.2.2.1 - 1)), .slice A2343 y2334.2.2.2.2.2.2.1.length c2344, .int .i64 a0_6, .int .i64 y2334.2.2.2.2.2.2.2.1, .int .i64 y2334.2.2.2.2.2.2.2.2.1, .int .i64 y2334.2.2.2.2.2.2.2.2.2.1]) (L' := (Row (Kd.int .i64) 3 (.slice A1036 y2334.2.2.2.2.2.2.2.2.2.2.length c1037) y2334.2.2.2.2.2.2.2.2.2.2 :: Blk b2350 [.int .i64 y2320.f1.f0, .int .i64 y2320.f1.f1, .int .i64 y2320.f1.f2, .int .i64 y2320.f1.f3] 40 :: Blk b1 [.slice A2 a0_0.length c3, .pointer (some ⟨b6, 0, none⟩), .slice A2339 y2334.2.2.2.1.length c2340, .int .i64 y2334.2.2.2.2.1, .int .i64 (IntKind.i64.wrap (y2334.2.2.2.2.2.1 - 1)), .slice A2343 y2334.2.2.2.2.2.2.1.length c2344, .int .i64 a0_6, .int .i64 y2334.2.2.2.2.2.2.2.1, .int .i64 y2334.2.2.2.2.2.2.2.2.1, .int .i64 y2334.2.2.2.2.2.2.2.2.2.1] 58 :: Blk b6 [.slice A2336 y2334.2.1.length c2337, .int .i64 y2334.2.2.1, .int .i64 a0_1_2] 89 :: Row (Kd.int .i64) 3 (.slice A2336 y2334.2.1.length c2337) y2334.2.1 :: Row (Kd.int .i64) 3 (.slice A2343 y2334.2.2.2.2.2.2.1.length c2344) y2334.2.2.2.2.2.2.1 :: Blk b2333 [.slice A2329 y2320.f0.length c2330, .int .i64 y2320.f1.f0, .int .i64 y2320.f1.f1, .int .i64 y2320.f1.f2, .int .i64 y2320.f1.f3] 42 :: Blk b25 [.pointer (some ⟨b1, 0, none⟩)] 56 :: Blk b26 [.int .i64 a1.f0, .slice A17 a1.f1.length c18] 45 :: Row (Kd.int .i64) 3 (.slice A21 n24 c22) a2 :: L)) rfl fsz3 rfl rfl rfl rfl rfl (Nat.le_of_ble_eq_true rfl) rfl rfl ?_)
      refine TL.nil ?_
      refine TQ.finD (.inr rfl) rfl Try.results56 .nil ?_
      obtain rfl := Option.some.inj h
      have h := ko1541
      obtain rfl := Option.some.inj h
      exact Lv.nil hx2578 Try.results28 (.tmp rfl (.tmp rfl .nil)) rfl (FRel.mk (Ls := [Blk b1 [.slice A2 a0_0.length c3, .pointer (some ⟨b6, 0, none⟩), .slice A2339 y2334.2.2.2.1.length c2340, .int .i64 y2334.2.2.2.2.1, .int .i64 (IntKind.i64.wrap (y2334.2.2.2.2.2.1 - 1)), .slice A2343 y2334.2.2.2.2.2.2.1.length c2344, .int .i64 a0_6, .int .i64 y2334.2.2.2.2.2.2.2.1, .int .i64 y2334.2.2.2.2.2.2.2.2.1, .int .i64 y2334.2.2.2.2.2.2.2.2.2.1] 58, Blk b6 [.slice A2336 y2334.2.1.length c2337, .int .i64 y2334.2.2.1, .int .i64 a0_1_2] 89, Row (Kd.int .i64) 3 (.slice A2336 y2334.2.1.length c2337) y2334.2.1, Row (Kd.int .i64) 3 (.slice A2343 y2334.2.2.2.2.2.2.1.length c2344) y2334.2.2.2.2.2.2.1, Row (Kd.int .i64) 3 (.slice A21 n24 c22) a2]) [2, 3, 4, 5, 9] 10 (Gd.le.refl _) rfl rfl rfl ⟨rfl, A2336, c2337, A2339, c2340, A2343, c2344, rfl, rfl, hr2341, hl2342⟩)
     ·
      refine TC.seq ?_
      refine TC.region ?_
      refine TL.cons (TO.val rfl rfl rfl (Val.fieldAddrB Try.underlying40 rfl fsz3 rfl rfl rfl) ?_)
      refine TL.cons (TO.val rfl rfl rfl (Val.loadB 0 agg3 rfl rfl rfl) ?_)
      refine TL.cons (TO.val rfl rfl rfl (Val.cmp rfl rfl run_eql) ?_)
      refine TL.cons (TO.val rfl rfl rfl (Val.assign rfl) ?_)
      refine TL.nil ?_
      refine TQ.then_ ?_
      refine TC.cond_p rfl h (fun hc2619 h => ?_) (fun hc2619 h => ?_)
      ·
       refine TC.seq ?_
       refine TC.regionAny [] [0, 1, 2, 3] mixed (by kernel_rfl) ?_
       refine TA.take 0 rfl (by kernel_rfl) rfl (PQ.then_ (PQ.inB (PQ.inB (PQ.then_ (PQ.inB (PQ.then_ PQ.body)))))) rfl (Val.fieldAddrB Try.underlying40 rfl fsz3 rfl rfl rfl) (fun W hO => hO) ?_
       refine TA.take 1 rfl (by kernel_rfl) rfl (PQ.then_ (PQ.inB (PQ.inB (PQ.then_ (PQ.inB (PQ.then_ PQ.body)))))) rfl (Val.loadB 0 agg3 rfl rfl rfl) (fun W hO => hO) ?_
       refine TA.take 2 rfl (by kernel_rfl) rfl (PQ.then_ (PQ.inB (PQ.inB (PQ.then_ (PQ.inB (PQ.then_ PQ.body)))))) rfl (Val.assign rfl) (fun W hO => hO) ?_
       refine TA.take 3 rfl (by kernel_rfl) rfl (PQ.then_ (PQ.inB (PQ.inB (PQ.then_ (PQ.inB (PQ.then_ PQ.body)))))) rfl (Val.assign rfl) (fun W hO => hO) ?_
       refine TA.done (by kernel_rfl) ?_
       refine TQ.then_ ?_
       refine TC.ret ?_
       refine TQ.inBR ?_
       refine TQ.inBR ?_
       refine TQ.thenR ?_
       refine TQ.inBR ?_
       refine TQ.thenR ?_
       refine TQ.finL (ds := ((⟨79, [{ target := .fn (.func 56) #[.pointer (some ⟨b25, 0, none⟩)], args := #[] }]⟩ : Nd)).D) (.inl rfl) rfl (fun a_ hx2620 => ?_)
       refine Lv.fn (args := [.pointer (some ⟨b25, 0, none⟩)]) (e' := [(0, .pointer (some ⟨b25, 0, none⟩))]) 8 hbd56 Try.func56 rfl Try.ntmps56 rfl rfl rfl (Nat.le_of_ble_eq_true rfl) ?_
       refine TC.region ?_
       refine TL.cons (TO.val rfl rfl rfl (Val.loadB 7 agg56 rfl rfl rfl) ?_)
       refine TL.cons (TO.val rfl rfl rfl (Val.nilCheck rfl) ?_)
       refine TL.cons (TO.val rfl rfl rfl (Val.fieldAddrB Try.underlying58 rfl fsz3 rfl rfl rfl) ?_)
       refine TL.cons (TO.val rfl rfl rfl (Val.loadB 1 agg3 rfl rfl rfl) ?_)
       refine TL.cons (TO.val rfl rfl rfl (Val.cmp rfl rfl run_sub) ?_)
       refine TL.cons (TO.val rfl rfl rfl (Val.nilCheck rfl) ?_)
       refine TL.cons (TO.val rfl rfl rfl (Val.fieldAddrB Try.underlying58 rfl fsz3 rfl rfl rfl) ?_)
       refine TL.cons (TL.store 1 (ds := [.int .i64 (IntKind.i64.wrap (y2334.2.2.2.2.2.1 - 1))]) (cs' := [.slice A2 a0_0.length c3, .pointer (some ⟨b6, 0, none⟩), .slice A2339 y2334.2.2.2.1.length c2340, .int .i64 y2334.2.2.2.2.1, .int .i64 (IntKind.i64.wrap (y2334.2.2.2.2.2.1 - 1)), .slice A2343 y2334.2.2.2.2.2.2.1.length c2344, .int .i64 a0_6, .int .i64 y2334.2.2.2.2.2.2.2.1, .int .i64 y2334.2.2.2.2.2.2.2.2.1, .int .i64 y2334.2.2.2.2.2.2.2.2.2.1]) (L' := (Blk b2350 [.int .i64 y2320.f1.f0, .int .i64 y2320.f1.f1, .int .i64 y2320.f1.f2, .int .i64 y2320.f1.f3] 40 :: Blk b1 [.slice A2 a0_0.length c3, .pointer (some ⟨b6, 0, none⟩), .slice A2339 y2334.2.2.2.1.length c2340, .int .i64 y2334.2.2.2.2.1, .int .i64 (IntKind.i64.wrap (y2334.2.2.2.2.2.1 - 1)), .slice A2343 y2334.2.2.2.2.2.2.1.length c2344, .int .i64 a0_6, .int .i64 y2334.2.2.2.2.2.2.2.1, .int .i64 y2334.2.2.2.2.2.2.2.2.1, .int .i64 y2334.2.2.2.2.2.2.2.2.2.1] 58 :: Blk b6 [.slice A2336 y2334.2.1.length c2337, .int .i64 y2334.2.2.1, .int .i64 a0_1_2] 89 :: Row (Kd.int .i64) 3 (.slice A2336 y2334.2.1.length c2337) y2334.2.1 :: Row (Kd.int .i64) 3 (.slice A2343 y2334.2.2.2.2.2.2.1.length c2344) y2334.2.2.2.2.2.2.1 :: Row (Kd.int .i64) 3 (.slice A1036 y2334.2.2.2.2.2.2.2.2.2.2.length c1037) y2334.2.2.2.2.2.2.2.2.2.2 :: Blk b2333 [.slice A2329 y2320.f0.length c2330, .int .i64 y2320.f1.f0, .int .i64 y2320.f1.f1, .int .i64 y2320.f1.f2, .int .i64 y2320.f1.f3] 42 :: Blk b25 [.pointer (some ⟨b1, 0, none⟩)] 56 :: Blk b26 [.int .i64 a1.f0, .slice A17 a1.f1.length c18] 45 :: Row (Kd.int .i64) 3 (.slice A21 n24 c22) a2 :: L)) rfl fsz3 rfl rfl rfl rfl rfl (Nat.le_of_ble_eq_true rfl) rfl rfl ?_)
       refine TL.nil ?_
       refine TQ.finD (.inr rfl) rfl Try.results56 .nil ?_
       obtain rfl := Option.some.inj h
       have h := ko1541
       obtain rfl := Option.some.inj h
       exact Lv.nil hx2620 Try.results28 (.tmp rfl (.tmp rfl .nil)) rfl (FRel.mk (Ls := [Blk b1 [.slice A2 a0_0.length c3, .pointer (some ⟨b6, 0, none⟩), .slice A2339 y2334.2.2.2.1.length c2340, .int .i64 y2334.2.2.2.2.1, .int .i64 (IntKind.i64.wrap (y2334.2.2.2.2.2.1 - 1)), .slice A2343 y2334.2.2.2.2.2.2.1.length c2344, .int .i64 a0_6, .int .i64 y2334.2.2.2.2.2.2.2.1, .int .i64 y2334.2.2.2.2.2.2.2.2.1, .int .i64 y2334.2.2.2.2.2.2.2.2.2.1] 58, Blk b6 [.slice A2336 y2334.2.1.length c2337, .int .i64 y2334.2.2.1, .int .i64 a0_1_2] 89, Row (Kd.int .i64) 3 (.slice A2336 y2334.2.1.length c2337) y2334.2.1, Row (Kd.int .i64) 3 (.slice A2343 y2334.2.2.2.2.2.2.1.length c2344) y2334.2.2.2.2.2.2.1, Row (Kd.int .i64) 3 (.slice A21 n24 c22) a2]) [1, 2, 3, 4, 9] 10 (Gd.le.refl _) rfl rfl rfl ⟨rfl, A2336, c2337, A2339, c2340, A2343, c2344, rfl, rfl, hr2341, hl2342⟩)
      ·
       refine TC.seq ?_
       obtain ⟨j2640, hj2640, h⟩ := jn_no h
       refine TC.tail (fun a W => ∃ (x2639 : Bool), j2640 x2639 = some o1541 ∧ Fr (⟨79, [{ target := .fn (.func 56) #[.pointer (some ⟨b25, 0, none⟩)], args := #[] }]⟩ : Nd) a [(3, .pointer (some ⟨b25, 0, none⟩)), (4, .pointer (some ⟨b26, 0, none⟩)), (8, .slice A1036 y2334.2.2.2.2.2.2.2.2.2.2.length c1037), (12, .pointer (some ⟨b2350, 0, none⟩)), (65, .bool x2639)] ∧ Own G (Blk b1 [.slice A2 a0_0.length c3, .pointer (some ⟨b6, 0, none⟩), .slice A2339 y2334.2.2.2.1.length c2340, .int .i64 y2334.2.2.2.2.1, .int .i64 y2334.2.2.2.2.2.1, .slice A2343 y2334.2.2.2.2.2.2.1.length c2344, .int .i64 a0_6, .int .i64 y2334.2.2.2.2.2.2.2.1, .int .i64 y2334.2.2.2.2.2.2.2.2.1, .int .i64 y2334.2.2.2.2.2.2.2.2.2.1] 58 :: Blk b2350 [.int .i64 y2320.f1.f0, .int .i64 y2320.f1.f1, .int .i64 y2320.f1.f2, .int .i64 y2320.f1.f3] 40 :: Blk b25 [.pointer (some ⟨b1, 0, none⟩)] 56 :: Blk b26 [.int .i64 a1.f0, .slice A17 a1.f1.length c18] 45 :: Blk b6 [.slice A2336 y2334.2.1.length c2337, .int .i64 y2334.2.2.1, .int .i64 a0_1_2] 89 :: Row (Kd.int .i64) 3 (.slice A1036 y2334.2.2.2.2.2.2.2.2.2.2.length c1037) y2334.2.2.2.2.2.2.2.2.2.2 :: Row (Kd.int .i64) 3 (.slice A2343 y2334.2.2.2.2.2.2.1.length c2344) y2334.2.2.2.2.2.2.1 :: Row (Kd.int .i64) 3 (.slice A2336 y2334.2.1.length c2337) y2334.2.1 :: Row (Kd.int .i64) 3 (.slice A21 n24 c22) a2 :: L) W) ?_ ?_
       ·
        rintro a W ⟨x2639, h, hF, hO⟩
        rw [hj2640] at h
        refine TQ.use ?_ hF hO
        clear hF hO
        refine TQ.then_ ?_
        refine TC.cond_b rfl h (fun hc2642 h => ?_) (fun hc2642 h => ?_)
        ·
         refine TC.region ?_
         refine TL.cons (TO.val rfl rfl rfl (Val.fieldAddrB Try.underlying40 rfl fsz3 rfl rfl rfl) ?_)
         refine TL.cons (TO.val rfl rfl rfl (Val.loadB 1 agg3 rfl rfl rfl) ?_)
         refine TL.cons (TO.val rfl rfl rfl (Val.assign rfl) ?_)
         refine TL.nil ?_
         refine TQ.inB ?_
         refine TQ.inB ?_
         exact fun a W hF hO => ⟨y2334.2.2.2.2.2.2.2.2.2.2, y2320.f1.f2, y2334.2.2.2.1, y2334.2.2.2.2.1, y2334.2.2.2.2.2.1, y2334.2.2.2.2.2.2.1, y2334.2.2.2.2.2.2.2.1, y2334.2.2.2.2.2.2.2.2.1, y2334.2.2.2.2.2.2.2.2.2.1, y2334.2.1, y2334.2.2.1, A1036, c1037, A2339, c2340, A2343, c2344, A2336, c2337, h, hr2341, hl2342, hF.sub ⟨rfl, rfl, rfl, rfl, trivial⟩, hO.selT (Ls := [Blk b1 [.slice A2 a0_0.length c3, .pointer (some ⟨b6, 0, none⟩), .slice A2339 y2334.2.2.2.1.length c2340, .int .i64 y2334.2.2.2.2.1, .int .i64 y2334.2.2.2.2.2.1, .slice A2343 y2334.2.2.2.2.2.2.1.length c2344, .int .i64 a0_6, .int .i64 y2334.2.2.2.2.2.2.2.1, .int .i64 y2334.2.2.2.2.2.2.2.2.1, .int .i64 y2334.2.2.2.2.2.2.2.2.2.1] 58, Blk b25 [.pointer (some ⟨b1, 0, none⟩)] 56, Blk b26 [.int .i64 a1.f0, .slice A17 a1.f1.length c18] 45, Blk b6 [.slice A2336 y2334.2.1.length c2337, .int .i64 y2334.2.2.1, .int .i64 a0_1_2] 89, Row (Kd.int .i64) 3 (.slice A1036 y2334.2.2.2.2.2.2.2.2.2.2.length c1037) y2334.2.2.2.2.2.2.2.2.2.2, Row (Kd.int .i64) 3 (.slice A2343 y2334.2.2.2.2.2.2.1.length c2344) y2334.2.2.2.2.2.2.1, Row (Kd.int .i64) 3 (.slice A2336 y2334.2.1.length c2337) y2334.2.1, Row (Kd.int .i64) 3 (.slice A21 n24 c22) a2]) [0, 2, 3, 4, 5, 6, 7, 8] 9 rfl rfl rfl⟩
        ·
         refine TC.region ?_
         refine TL.cons (TO.val rfl rfl rfl (Val.fieldAddrB Try.underlying40 rfl fsz3 rfl rfl rfl) ?_)
         refine TL.cons (TO.val rfl rfl rfl (Val.loadB 1 agg3 rfl rfl rfl) ?_)
         refine TL.cons (TO.val rfl rfl rfl (Val.assign rfl) ?_)
         refine TL.nil ?_
         refine TQ.inB ?_
         refine TQ.inB ?_
         exact fun a W hF hO => ⟨y2334.2.2.2.2.2.2.2.2.2.2, y2320.f1.f3, y2334.2.2.2.1, y2334.2.2.2.2.1, y2334.2.2.2.2.2.1, y2334.2.2.2.2.2.2.1, y2334.2.2.2.2.2.2.2.1, y2334.2.2.2.2.2.2.2.2.1, y2334.2.2.2.2.2.2.2.2.2.1, y2334.2.1, y2334.2.2.1, A1036, c1037, A2339, c2340, A2343, c2344, A2336, c2337, h, hr2341, hl2342, hF.sub ⟨rfl, rfl, rfl, rfl, trivial⟩, hO.selT (Ls := [Blk b1 [.slice A2 a0_0.length c3, .pointer (some ⟨b6, 0, none⟩), .slice A2339 y2334.2.2.2.1.length c2340, .int .i64 y2334.2.2.2.2.1, .int .i64 y2334.2.2.2.2.2.1, .slice A2343 y2334.2.2.2.2.2.2.1.length c2344, .int .i64 a0_6, .int .i64 y2334.2.2.2.2.2.2.2.1, .int .i64 y2334.2.2.2.2.2.2.2.2.1, .int .i64 y2334.2.2.2.2.2.2.2.2.2.1] 58, Blk b25 [.pointer (some ⟨b1, 0, none⟩)] 56, Blk b26 [.int .i64 a1.f0, .slice A17 a1.f1.length c18] 45, Blk b6 [.slice A2336 y2334.2.1.length c2337, .int .i64 y2334.2.2.1, .int .i64 a0_1_2] 89, Row (Kd.int .i64) 3 (.slice A1036 y2334.2.2.2.2.2.2.2.2.2.2.length c1037) y2334.2.2.2.2.2.2.2.2.2.2, Row (Kd.int .i64) 3 (.slice A2343 y2334.2.2.2.2.2.2.1.length c2344) y2334.2.2.2.2.2.2.1, Row (Kd.int .i64) 3 (.slice A2336 y2334.2.1.length c2337) y2334.2.1, Row (Kd.int .i64) 3 (.slice A21 n24 c22) a2]) [0, 2, 3, 4, 5, 6, 7, 8] 9 rfl rfl rfl⟩
       ·
        refine TC.region ?_
        refine TL.cons (TO.val rfl rfl rfl (Val.fieldAddrB Try.underlying40 rfl fsz3 rfl rfl rfl) ?_)
        refine TL.cons (TO.val rfl rfl rfl (Val.loadB 0 agg3 rfl rfl rfl) ?_)
        refine TL.cons (TO.val rfl rfl rfl (Val.cmp rfl rfl run_eql) ?_)
        refine TL.cons (TO.val rfl rfl rfl (Val.move rfl) ?_)
        refine TK.split (p := y2320.f1.f0 = 1) h (fun hg2643 h => ?_) (fun hg2643 h => ?_)
        ·
         have hk2644 : decide (y2320.f1.f0 = 1) = true := decide_eq_true hg2643
         refine TL.cons (TL.not (Wt.no rfl rfl rfl hk2644) rfl ?_)
         refine TL.cons (TL.not (Wt.no rfl rfl rfl hk2644) rfl ?_)
         refine TL.cons (TL.not (Wt.no rfl rfl rfl hk2644) rfl ?_)
         refine TL.cons (TL.not (Wt.no rfl rfl rfl hk2644) rfl ?_)
         refine TL.cons (TL.not (Wt.no rfl rfl rfl hk2644) rfl ?_)
         refine TL.cons (TL.not (Wt.no rfl rfl rfl hk2644) rfl ?_)
         refine TL.cons (TO.val rfl rfl rfl (Val.pickY rfl hk2644 rfl) ?_)
         refine TL.cons (TO.val rfl rfl rfl (Val.assign rfl) ?_)
         refine TL.nil ?_
         exact fun a W hF hO => ⟨true, h, hF.sub ⟨rfl, rfl, rfl, rfl, rfl, trivial⟩, hO.selT (Ls := [Blk b1 [.slice A2 a0_0.length c3, .pointer (some ⟨b6, 0, none⟩), .slice A2339 y2334.2.2.2.1.length c2340, .int .i64 y2334.2.2.2.2.1, .int .i64 y2334.2.2.2.2.2.1, .slice A2343 y2334.2.2.2.2.2.2.1.length c2344, .int .i64 a0_6, .int .i64 y2334.2.2.2.2.2.2.2.1, .int .i64 y2334.2.2.2.2.2.2.2.2.1, .int .i64 y2334.2.2.2.2.2.2.2.2.2.1] 58, Blk b2350 [.int .i64 y2320.f1.f0, .int .i64 y2320.f1.f1, .int .i64 y2320.f1.f2, .int .i64 y2320.f1.f3] 40, Blk b25 [.pointer (some ⟨b1, 0, none⟩)] 56, Blk b26 [.int .i64 a1.f0, .slice A17 a1.f1.length c18] 45, Blk b6 [.slice A2336 y2334.2.1.length c2337, .int .i64 y2334.2.2.1, .int .i64 a0_1_2] 89, Row (Kd.int .i64) 3 (.slice A1036 y2334.2.2.2.2.2.2.2.2.2.2.length c1037) y2334.2.2.2.2.2.2.2.2.2.2, Row (Kd.int .i64) 3 (.slice A2343 y2334.2.2.2.2.2.2.1.length c2344) y2334.2.2.2.2.2.2.1, Row (Kd.int .i64) 3 (.slice A2336 y2334.2.1.length c2337) y2334.2.1, Row (Kd.int .i64) 3 (.slice A21 n24 c22) a2]) [1, 0, 7, 8, 2, 5, 4, 3, 9] 10 rfl rfl rfl⟩
        ·
         have hk2645 : decide (y2320.f1.f0 = 1) = false := decide_eq_false hg2643
         refine TL.cons (TO.val (Wt.yes rfl rfl rfl hk2645) rfl rfl (Val.move rfl) ?_)
         refine TL.cons (TO.val (Wt.yes rfl rfl rfl hk2645) rfl rfl (Val.fieldAddrB Try.underlying40 rfl fsz3 rfl rfl rfl) ?_)
         refine TL.cons (TO.val (Wt.yes rfl rfl rfl hk2645) rfl rfl (Val.loadB 0 agg3 rfl rfl rfl) ?_)
         refine TK.sel (Ls := [Row (Kd.int .i64) 3 (.slice A1036 y2334.2.2.2.2.2.2.2.2.2.2.length c1037) y2334.2.2.2.2.2.2.2.2.2.2, Blk b2350 [.int .i64 y2320.f1.f0, .int .i64 y2320.f1.f1, .int .i64 y2320.f1.f2, .int .i64 y2320.f1.f3] 40, Blk b1 [.slice A2 a0_0.length c3, .pointer (some ⟨b6, 0, none⟩), .slice A2339 y2334.2.2.2.1.length c2340, .int .i64 y2334.2.2.2.2.1, .int .i64 y2334.2.2.2.2.2.1, .slice A2343 y2334.2.2.2.2.2.2.1.length c2344, .int .i64 a0_6, .int .i64 y2334.2.2.2.2.2.2.2.1, .int .i64 y2334.2.2.2.2.2.2.2.2.1, .int .i64 y2334.2.2.2.2.2.2.2.2.2.1] 58, Blk b6 [.slice A2336 y2334.2.1.length c2337, .int .i64 y2334.2.2.1, .int .i64 a0_1_2] 89, Row (Kd.int .i64) 3 (.slice A2336 y2334.2.1.length c2337) y2334.2.1, Row (Kd.int .i64) 3 (.slice A2343 y2334.2.2.2.2.2.2.1.length c2344) y2334.2.2.2.2.2.2.1, Blk b2333 [.slice A2329 y2320.f0.length c2330, .int .i64 y2320.f1.f0, .int .i64 y2320.f1.f1, .int .i64 y2320.f1.f2, .int .i64 y2320.f1.f3] 42, Blk b25 [.pointer (some ⟨b1, 0, none⟩)] 56, Blk b26 [.int .i64 a1.f0, .slice A17 a1.f1.length c18] 45, Row (Kd.int .i64) 3 (.slice A21 n24 c22) a2]) [5, 0, 1, 2, 3, 4, 6, 7, 8, 9] 10 rfl rfl rfl ?_
         refine TK.share (fun G2646 e2647 hs2648 hb2649 => ?_)
         have rd2650 : Rd G2646 (Kd.int .i64) A1036 y2334.2.2.2.2.2.2.2.2.2.2 := Rd.row hs2648
         have le2651 : y2334.2.2.2.2.2.2.2.2.2.2.length ≤ c1037 := Row.le hs2648
         obtain ⟨y2652, hx2653, h⟩ := bind_no h
         obtain ⟨ad2654, cs2660, hA2655, hi2656, hj2657, hcl2658, hK2659⟩ := Rd.at rd2650 hx2653
         obtain rfl := RdK.int hK2659
         refine TL.cons (TO.val (Wt.yes rfl rfl rfl hk2645) rfl rfl (Val.indexAddr Try.underlying23 fsz3 rfl hA2655 rfl hi2656 hj2657) ?_)
         refine TL.cons (TO.val (Wt.yes rfl rfl rfl hk2645) rfl rfl (Val.loadS agg3 rfl (hcl2658 0 _ rfl)) ?_)
         refine TL.cons (TO.val (Wt.yes rfl rfl rfl hk2645) rfl rfl (Val.cmp rfl rfl run_neq) ?_)
         refine TL.cons (TO.val rfl rfl rfl (Val.pickN rfl hk2645 rfl) ?_)
         refine TL.cons (TO.val rfl rfl rfl (Val.assign rfl) ?_)
         refine TL.nil ?_
         refine TQ.back hb2649 ?_
         exact fun a W hF hO => ⟨(!decide (y2652 = 0)), h, hF.sub ⟨rfl, rfl, rfl, rfl, rfl, trivial⟩, hO.selT (Ls := [Blk b1 [.slice A2 a0_0.length c3, .pointer (some ⟨b6, 0, none⟩), .slice A2339 y2334.2.2.2.1.length c2340, .int .i64 y2334.2.2.2.2.1, .int .i64 y2334.2.2.2.2.2.1, .slice A2343 y2334.2.2.2.2.2.2.1.length c2344, .int .i64 a0_6, .int .i64 y2334.2.2.2.2.2.2.2.1, .int .i64 y2334.2.2.2.2.2.2.2.2.1, .int .i64 y2334.2.2.2.2.2.2.2.2.2.1] 58, Blk b2350 [.int .i64 y2320.f1.f0, .int .i64 y2320.f1.f1, .int .i64 y2320.f1.f2, .int .i64 y2320.f1.f3] 40, Blk b25 [.pointer (some ⟨b1, 0, none⟩)] 56, Blk b26 [.int .i64 a1.f0, .slice A17 a1.f1.length c18] 45, Blk b6 [.slice A2336 y2334.2.1.length c2337, .int .i64 y2334.2.2.1, .int .i64 a0_1_2] 89, Row (Kd.int .i64) 3 (.slice A1036 y2334.2.2.2.2.2.2.2.2.2.2.length c1037) y2334.2.2.2.2.2.2.2.2.2.2, Row (Kd.int .i64) 3 (.slice A2343 y2334.2.2.2.2.2.2.1.length c2344) y2334.2.2.2.2.2.2.1, Row (Kd.int .i64) 3 (.slice A2336 y2334.2.1.length c2337) y2334.2.1, Row (Kd.int .i64) 3 (.slice A21 n24 c22) a2]) [2, 1, 7, 8, 3, 0, 5, 4, 9] 10 rfl rfl rfl⟩
def trace_runner_block.l0 (rec82 : ((List S45) → (List Int) → Int → Int → (List Int) → Int → Int → (List Int) → Int → Int → Int → Int → S37 → (List Int) → Option (Int × Int × (List Int) × Int × (List Int) × Int × Int × (List Int) × Int × Int × Int))) (a0_0 : (List S45)) (a0_1_2 : Int) (a0_6 : Int) (a1 : S42) : Nat → (List Int) → Int → (List Int) → Int → Int → (List Int) → Int → Int → Int → (List Int) → Int → Option (Sum (Int × (List Int) × Int × (List Int) × Int × Int × (List Int) × Int × Int × Int × (List Int)) ((List Int) × Int × Int × (List Int) × Int × Int × Int × (List Int) × Int × (List Int)))
 | 0, _, _, _, _, _, _, _, _, _, _, _ => none
 | n482 + 1, l342, x343, l344, x349, x350, l351, x355, x356, x357, l358, x362 => (if x343 < (a1.f0.length : Int) then (at? a1.f0 x343).bind fun y633 => (trace_runner_pay.f a0_0 l358 x362 a0_1_2 l344 x349 x350 l351 a0_6 x355 x356 x357).bind fun (y647 : (Int × Int)) => (if (!decide (y647.1 = 0)) = true then some (.inl (y647.1, l358, x362, l344, y647.2, x350, l351, x355, x356, x357, l342)) else (rec82 a0_0 l358 x362 a0_1_2 l344 y647.2 x350 l351 a0_6 x355 x356 x357 y633 l342).bind fun (y651 : (Int × Int × (List Int) × Int × (List Int) × Int × Int × (List Int) × Int × Int × Int)) => (if (!decide (y651.2.1 = 0)) = true then some (.inl (y651.2.1, y651.2.2.1, y651.2.2.2.1, y651.2.2.2.2.1, y651.2.2.2.2.2.1, y651.2.2.2.2.2.2.1, y651.2.2.2.2.2.2.2.1, y651.2.2.2.2.2.2.2.2.1, y651.2.2.2.2.2.2.2.2.2.1, y651.2.2.2.2.2.2.2.2.2.2, l342)) else jn (γ := (Sum (Int × (List Int) × Int × (List Int) × Int × Int × (List Int) × Int × Int × Int × (List Int)) ((List Int) × Int × Int × (List Int) × Int × Int × Int × (List Int) × Int × (List Int)))) (fun (l672 : (List Int)) => trace_runner_block.l0 rec82 a0_0 a0_1_2 a0_6 a1 n482 l672 (IntKind.i64.wrap (x343 + 1)) y651.2.2.2.2.1 y651.2.2.2.2.2.1 y651.2.2.2.2.2.2.1 y651.2.2.2.2.2.2.2.1 y651.2.2.2.2.2.2.2.2.1 y651.2.2.2.2.2.2.2.2.2.1 y651.2.2.2.2.2.2.2.2.2.2 y651.2.2.1 y651.2.2.2.1) (fun (j673 : ((List Int) → Option (Sum (Int × (List Int) × Int × (List Int) × Int × Int × (List Int) × Int × Int × Int × (List Int)) ((List Int) × Int × Int × (List Int) × Int × Int × Int × (List Int) × Int × (List Int))))) => (if (!decide (y633.f1 = 0)) = true then (at? l342 y633.f1).bind fun y675 => j673 (l342.set y633.f1.toNat y651.1) else j673 l342)))) else some (.inr (l344, x349, x350, l351, x355, x356, x357, l358, x362, l342)))
def trace_runner_block.g (rec28 : ((List S45) → (List Int) → Int → Int → (List Int) → Int → Int → (List Int) → Int → Int → Int → Int → S45 → (List Int) → Option (Int × Int × (List Int) × Int × (List Int) × Int × Int × (List Int) × Int × Int × Int))) (rec58 : ((List S45) → (List Int) → Int → Int → (List Int) → Int → Int → (List Int) → Int → Int → Int → Int → S42 → (List Int) → Option (Int × (List Int) × Int × (List Int) × Int × Int × (List Int) × Int × Int × Int × (List Int)))) (rec82 : ((List S45) → (List Int) → Int → Int → (List Int) → Int → Int → (List Int) → Int → Int → Int → Int → S37 → (List Int) → Option (Int × Int × (List Int) × Int × (List Int) × Int × Int × (List Int) × Int × Int × Int))) (a0_0 : (List S45)) (a0_1_0 : (List Int)) (a0_1_1 : Int) (a0_1_2 : Int) (a0_2 : (List Int)) (a0_3 : Int) (a0_4 : Int) (a0_5 : (List Int)) (a0_6 : Int) (a0_7 : Int) (a0_8 : Int) (a0_9 : Int) (a1 : S42) (a2 : (List Int)) : Option (Int × (List Int) × Int × (List Int) × Int × Int × (List Int) × Int × Int × Int × (List Int)) := (trace_runner_block.l0 rec82 a0_0 a0_1_2 a0_6 a1 (a1.f0.length + 1) a2 0 a0_2 a0_3 a0_4 a0_5 a0_7 a0_8 a0_9 a0_1_0 a0_1_1).bind fun | .inl q_ => some q_ | .inr (l461, x466, x467, l468, x472, x473, x474, l475, x479, l480) => ((trace_runner_pay.f a0_0 l475 x479 a0_1_2 l461 x466 x467 l468 a0_6 x472 x473 x474).bind fun (y581 : (Int × Int)) => some (y581.1, l475, x479, l461, y581.2, x467, l468, x472, x473, x474, l480))
theorem trace_runner_block.step (rec28 : ((List S45) → (List Int) → Int → Int → (List Int) → Int → Int → (List Int) → Int → Int → Int → Int → S45 → (List Int) → Option (Int × Int × (List Int) × Int × (List Int) × Int × Int × (List Int) × Int × Int × Int))) (rec58 : ((List S45) → (List Int) → Int → Int → (List Int) → Int → Int → (List Int) → Int → Int → Int → Int → S42 → (List Int) → Option (Int × (List Int) × Int × (List Int) × Int × Int × (List Int) × Int × Int × Int × (List Int)))) (rec82 : ((List S45) → (List Int) → Int → Int → (List Int) → Int → Int → (List Int) → Int → Int → Int → Int → S37 → (List Int) → Option (Int × Int × (List Int) × Int × (List Int) × Int × Int × (List Int) × Int × Int × Int))) (ih28 : ∀ {G : Gd} {r : (Int × Int × (List Int) × Int × (List Int) × Int × Int × (List Int) × Int × Int × Int)} {a0_0 : (List S45)} {a0_1_0 : (List Int)} {a0_1_1 : Int} {a0_1_2 : Int} {a0_2 : (List Int)} {a0_3 : Int} {a0_4 : Int} {a0_5 : (List Int)} {a0_6 : Int} {a0_7 : Int} {a0_8 : Int} {a0_9 : Int} {a1 : S45} {a2 : (List Int)} {b1 : Nat} {A2 : Option Addr} {c3 : Nat} {b6 : Nat} {A7 : Option Addr} {c8 : Nat} {A10 : Option Addr} {c11 : Nat} {A14 : Option Addr} {c15 : Nat} {A17 : Option Addr} {c18 : Nat} {A21 : Option Addr} {c22 : Nat} {n24 : Nat} (hr4 : Rd G k45 A2 a0_0) (hl5 : a0_0.length ≤ c3) (hr12 : Rd G (Kd.int .i64) A10 a0_2) (hl13 : a0_2.length ≤ c11) (hr19 : Rd G k42 A17 a1.f1) (hl20 : a1.f1.length ≤ c18), rec28 a0_0 a0_1_0 a0_1_1 a0_1_2 a0_2 a0_3 a0_4 a0_5 a0_6 a0_7 a0_8 a0_9 a1 a2 = some r → Fn Try.prog 28 G [Blk b1 [.slice A2 a0_0.length c3, .pointer (some ⟨b6, 0, none⟩), .slice A10 a0_2.length c11, .int .i64 a0_3, .int .i64 a0_4, .slice A14 a0_5.length c15, .int .i64 a0_6, .int .i64 a0_7, .int .i64 a0_8, .int .i64 a0_9] 58, Blk b6 [.slice A7 a0_1_0.length c8, .int .i64 a0_1_1, .int .i64 a0_1_2] 89, Row (Kd.int .i64) 3 (.slice A7 a0_1_0.length c8) a0_1_0, Row (Kd.int .i64) 3 (.slice A14 a0_5.length c15) a0_5, Row (Kd.int .i64) 3 (.slice A21 n24 c22) a2] [.pointer (some ⟨b1, 0, none⟩), .agg #[.int .i64 a1.f0, .slice A17 a1.f1.length c18], .slice A21 n24 c22] (trace_runner_call.post G b1 A2 c3 b6 A7 c8 A10 c11 A14 c15 A17 c18 A21 c22 n24 a0_0 a0_1_0 a0_1_1 a0_1_2 a0_2 a0_3 a0_4 a0_5 a0_6 a0_7 a0_8 a0_9 a1 a2 r)) (ih58 : ∀ {G : Gd} {r : (Int × (List Int) × Int × (List Int) × Int × Int × (List Int) × Int × Int × Int × (List Int))} {a0_0 : (List S45)} {a0_1_0 : (List Int)} {a0_1_1 : Int} {a0_1_2 : Int} {a0_2 : (List Int)} {a0_3 : Int} {a0_4 : Int} {a0_5 : (List Int)} {a0_6 : Int} {a0_7 : Int} {a0_8 : Int} {a0_9 : Int} {a1 : S42} {a2 : (List Int)} {b1 : Nat} {A2 : Option Addr} {c3 : Nat} {b6 : Nat} {A7 : Option Addr} {c8 : Nat} {A10 : Option Addr} {c11 : Nat} {A14 : Option Addr} {c15 : Nat} {A17 : Option Addr} {c18 : Nat} {A21 : Option Addr} {c22 : Nat} {n24 : Nat} (hr4 : Rd G k45 A2 a0_0) (hl5 : a0_0.length ≤ c3) (hr12 : Rd G (Kd.int .i64) A10 a0_2) (hl13 : a0_2.length ≤ c11) (hr19 : Rd G k37 A17 a1.f0) (hl20 : a1.f0.length ≤ c18), rec58 a0_0 a0_1_0 a0_1_1 a0_1_2 a0_2 a0_3 a0_4 a0_5 a0_6 a0_7 a0_8 a0_9 a1 a2 = some r → Fn Try.prog 58 G [Blk b1 [.slice A2 a0_0.length c3, .pointer (some ⟨b6, 0, none⟩), .slice A10 a0_2.length c11, .int .i64 a0_3, .int .i64 a0_4, .slice A14 a0_5.length c15, .int .i64 a0_6, .int .i64 a0_7, .int .i64 a0_8, .int .i64 a0_9] 58, Blk b6 [.slice A7 a0_1_0.length c8, .int .i64 a0_1_1, .int .i64 a0_1_2] 89, Row (Kd.int .i64) 3 (.slice A7 a0_1_0.length c8) a0_1_0, Row (Kd.int .i64) 3 (.slice A14 a0_5.length c15) a0_5, Row (Kd.int .i64) 3 (.slice A21 n24 c22) a2] [.pointer (some ⟨b1, 0, none⟩), .agg #[.slice A17 a1.f0.length c18, .int .i64 a1.f1.f0, .int .i64 a1.f1.f1, .int .i64 a1.f1.f2, .int .i64 a1.f1.f3], .slice A21 n24 c22] (trace_runner_block.post G b1 A2 c3 b6 A7 c8 A10 c11 A14 c15 A17 c18 A21 c22 n24 a0_0 a0_1_0 a0_1_1 a0_1_2 a0_2 a0_3 a0_4 a0_5 a0_6 a0_7 a0_8 a0_9 a1 a2 r)) (ih82 : ∀ {G : Gd} {r : (Int × Int × (List Int) × Int × (List Int) × Int × Int × (List Int) × Int × Int × Int)} {a0_0 : (List S45)} {a0_1_0 : (List Int)} {a0_1_1 : Int} {a0_1_2 : Int} {a0_2 : (List Int)} {a0_3 : Int} {a0_4 : Int} {a0_5 : (List Int)} {a0_6 : Int} {a0_7 : Int} {a0_8 : Int} {a0_9 : Int} {a1 : S37} {a2 : (List Int)} {b1 : Nat} {A2 : Option Addr} {c3 : Nat} {b6 : Nat} {A7 : Option Addr} {c8 : Nat} {A10 : Option Addr} {c11 : Nat} {A14 : Option Addr} {c15 : Nat} {A17 : Option Addr} {c18 : Nat} {A21 : Option Addr} {c22 : Nat} {n24 : Nat} (hr4 : Rd G k45 A2 a0_0) (hl5 : a0_0.length ≤ c3) (hr12 : Rd G (Kd.int .i64) A10 a0_2) (hl13 : a0_2.length ≤ c11) (hr19 : Rd G (Kd.int .i64) A17 a1.f5) (hl20 : a1.f5.length ≤ c18), rec82 a0_0 a0_1_0 a0_1_1 a0_1_2 a0_2 a0_3 a0_4 a0_5 a0_6 a0_7 a0_8 a0_9 a1 a2 = some r → Fn Try.prog 82 G [Blk b1 [.slice A2 a0_0.length c3, .pointer (some ⟨b6, 0, none⟩), .slice A10 a0_2.length c11, .int .i64 a0_3, .int .i64 a0_4, .slice A14 a0_5.length c15, .int .i64 a0_6, .int .i64 a0_7, .int .i64 a0_8, .int .i64 a0_9] 58, Blk b6 [.slice A7 a0_1_0.length c8, .int .i64 a0_1_1, .int .i64 a0_1_2] 89, Row (Kd.int .i64) 3 (.slice A7 a0_1_0.length c8) a0_1_0, Row (Kd.int .i64) 3 (.slice A14 a0_5.length c15) a0_5, Row (Kd.int .i64) 3 (.slice A21 n24 c22) a2] [.pointer (some ⟨b1, 0, none⟩), .agg #[.int .i64 a1.f0, .int .i64 a1.f1, .int .i64 a1.f2, .int .i64 a1.f3, .int .i64 a1.f4, .slice A17 a1.f5.length c18], .slice A21 n24 c22] (trace_runner_value.post G b1 A2 c3 b6 A7 c8 A10 c11 A14 c15 A17 c18 A21 c22 n24 a0_0 a0_1_0 a0_1_1 a0_1_2 a0_2 a0_3 a0_4 a0_5 a0_6 a0_7 a0_8 a0_9 a1 a2 r)) {G : Gd} {r : (Int × (List Int) × Int × (List Int) × Int × Int × (List Int) × Int × Int × Int × (List Int))} {a0_0 : (List S45)} {a0_1_0 : (List Int)} {a0_1_1 : Int} {a0_1_2 : Int} {a0_2 : (List Int)} {a0_3 : Int} {a0_4 : Int} {a0_5 : (List Int)} {a0_6 : Int} {a0_7 : Int} {a0_8 : Int} {a0_9 : Int} {a1 : S42} {a2 : (List Int)} {b1 : Nat} {A2 : Option Addr} {c3 : Nat} {b6 : Nat} {A7 : Option Addr} {c8 : Nat} {A10 : Option Addr} {c11 : Nat} {A14 : Option Addr} {c15 : Nat} {A17 : Option Addr} {c18 : Nat} {A21 : Option Addr} {c22 : Nat} {n24 : Nat} (hr4 : Rd G k45 A2 a0_0) (hl5 : a0_0.length ≤ c3) (hr12 : Rd G (Kd.int .i64) A10 a0_2) (hl13 : a0_2.length ≤ c11) (hr19 : Rd G k37 A17 a1.f0) (hl20 : a1.f0.length ≤ c18) (h : trace_runner_block.g rec28 rec58 rec82 a0_0 a0_1_0 a0_1_1 a0_1_2 a0_2 a0_3 a0_4 a0_5 a0_6 a0_7 a0_8 a0_9 a1 a2 = some r) : Fn Try.prog 58 G [Blk b1 [.slice A2 a0_0.length c3, .pointer (some ⟨b6, 0, none⟩), .slice A10 a0_2.length c11, .int .i64 a0_3, .int .i64 a0_4, .slice A14 a0_5.length c15, .int .i64 a0_6, .int .i64 a0_7, .int .i64 a0_8, .int .i64 a0_9] 58, Blk b6 [.slice A7 a0_1_0.length c8, .int .i64 a0_1_1, .int .i64 a0_1_2] 89, Row (Kd.int .i64) 3 (.slice A7 a0_1_0.length c8) a0_1_0, Row (Kd.int .i64) 3 (.slice A14 a0_5.length c15) a0_5, Row (Kd.int .i64) 3 (.slice A21 n24 c22) a2] [.pointer (some ⟨b1, 0, none⟩), .agg #[.slice A17 a1.f0.length c18, .int .i64 a1.f1.f0, .int .i64 a1.f1.f1, .int .i64 a1.f1.f2, .int .i64 a1.f1.f3], .slice A21 n24 c22] (trace_runner_block.post G b1 A2 c3 b6 A7 c8 A10 c11 A14 c15 A17 c18 A21 c22 n24 a0_0 a0_1_0 a0_1_1 a0_1_2 a0_2 a0_3 a0_4 a0_5 a0_6 a0_7 a0_8 a0_9 a1 a2 r) := by
 refine Fn.intro (e := [(0, .pointer (some ⟨b1, 0, none⟩)), (1, .agg #[.slice A17 a1.f0.length c18, .int .i64 a1.f1.f0, .int .i64 a1.f1.f1, .int .i64 a1.f1.f2, .int .i64 a1.f1.f3]), (2, .slice A21 n24 c22)]) 45 Try.func58 rfl Try.ntmps58 rfl rfl (Nat.le_of_ble_eq_true rfl) (fun L => ?_)
 unfold trace_runner_block.g at h
 refine TC.seq ?_
 refine TC.region ?_
 refine TL.cons (TL.box (cs := [.slice A17 a1.f0.length c18, .int .i64 a1.f1.f0, .int .i64 a1.f1.f1, .int .i64 a1.f1.f2, .int .i64 a1.f1.f3]) rfl rfl rfl rfl (fun b25 => ?_))
 refine TL.cons (TO.val rfl rfl rfl (Val.assign rfl) ?_)
 refine TL.nil ?_
 refine TQ.then_ ?_
 refine TC.seq ?_
 refine TC.seq ?_
 refine TC.region ?_
 refine TL.cons (TO.val rfl rfl rfl (Val.fieldAddrB Try.underlying42 rfl fsz38 rfl rfl rfl) ?_)
 refine TL.cons (TO.val rfl rfl rfl (Val.loadB 0 agg38 rfl rfl rfl) ?_)
 refine TL.cons (TO.val rfl rfl rfl (Val.len Try.underlying38 rfl) ?_)
 refine TL.cons (TO.val rfl rfl rfl (Val.move rfl) ?_)
 refine TL.nil ?_
 refine TQ.then_ ?_
 obtain ⟨o481, ho481, ko481⟩ := bind_no h
 clear h
 refine TC.tail (fun a W => ∃ (l461 : (List Int)) (x466 : Int) (x467 : Int) (l468 : (List Int)) (x472 : Int) (x473 : Int) (x474 : Int) (l475 : (List Int)) (x479 : Int) (l480 : (List Int)) (A462 : Option Addr) (c463 : Nat) (A469 : Option Addr) (c470 : Nat) (A476 : Option Addr) (c477 : Nat), (.inr (l461, x466, x467, l468, x472, x473, x474, l475, x479, l480)) = o481 ∧ Rd G (Kd.int .i64) A462 l461 ∧ l461.length ≤ c463 ∧ Fr 45 a [(0, .pointer (some ⟨b1, 0, none⟩))] ∧ Own G (Blk b1 [.slice A2 a0_0.length c3, .pointer (some ⟨b6, 0, none⟩), .slice A462 l461.length c463, .int .i64 x466, .int .i64 x467, .slice A469 l468.length c470, .int .i64 a0_6, .int .i64 x472, .int .i64 x473, .int .i64 x474] 58 :: Blk b6 [.slice A476 l475.length c477, .int .i64 x479, .int .i64 a0_1_2] 89 :: Row (Kd.int .i64) 3 (.slice A469 l468.length c470) l468 :: Row (Kd.int .i64) 3 (.slice A476 l475.length c477) l475 :: Row (Kd.int .i64) 3 (.slice A21 n24 c22) l480 :: L) W) ?_ ?_
 ·
  rintro a W ⟨l461, x466, x467, l468, x472, x473, x474, l475, x479, l480, A462, c463, A469, c470, A476, c477, rfl, hr464, hl465, hF, hO⟩
  have h := ko481
  clear ko481 ho481
  refine TQ.use ?_ hF hO
  clear hF hO
  refine TQ.then_ ?_
  refine TC.seq ?_
  refine TC.region ?_
  refine TL.cons (TO.val rfl rfl rfl (Val.move rfl) ?_)
  refine TK.sel (Ls := [Blk b1 [.slice A2 a0_0.length c3, .pointer (some ⟨b6, 0, none⟩), .slice A462 l461.length c463, .int .i64 x466, .int .i64 x467, .slice A469 l468.length c470, .int .i64 a0_6, .int .i64 x472, .int .i64 x473, .int .i64 x474] 58, Blk b6 [.slice A476 l475.length c477, .int .i64 x479, .int .i64 a0_1_2] 89, Row (Kd.int .i64) 3 (.slice A476 l475.length c477) l475, Row (Kd.int .i64) 3 (.slice A469 l468.length c470) l468, Row (Kd.int .i64) 3 (.slice A21 n24 c22) l480]) [0, 1, 3, 2, 4] 5 rfl rfl rfl ?_
  obtain ⟨y581, hy582, h⟩ := bind_no h
  refine TL.cons (TL.callV (Lin := [Blk b1 [.slice A2 a0_0.length c3, .pointer (some ⟨b6, 0, none⟩), .slice A462 l461.length c463, .int .i64 x466, .int .i64 x467, .slice A469 l468.length c470, .int .i64 a0_6, .int .i64 x472, .int .i64 x473, .int .i64 x474] 58, Blk b6 [.slice A476 l475.length c477, .int .i64 x479, .int .i64 a0_1_2] 89, Row (Kd.int .i64) 3 (.slice A476 l475.length c477) l475, Row (Kd.int .i64) 3 (.slice A469 l468.length c470) l468]) (args := [.pointer (some ⟨b1, 0, none⟩)]) rfl rfl rfl hbd81 rfl rfl (trace_runner_pay.calls (a0_0 := a0_0) (a0_1_0 := l475) (a0_1_1 := x479) (a0_1_2 := a0_1_2) (a0_2 := l461) (a0_3 := x466) (a0_4 := x467) (a0_5 := l468) (a0_6 := a0_6) (a0_7 := x472) (a0_8 := x473) (a0_9 := x474) hr4 hl5 hr464 hl465 hy582) rfl ?_)
  rintro _ _ _ _ ⟨rfl, rfl, rfl⟩
  refine TL.cons (TO.val rfl rfl rfl (Val.assign rfl) ?_)
  refine TL.nil ?_
  refine TQ.then_ ?_
  refine TC.ret ?_
  obtain rfl := Option.some.inj h
  exact TQ.fin (.inl rfl) rfl Try.results58 (.tmp rfl .nil) rfl (FRel.mk (Ls := [Blk b1 [.slice A2 a0_0.length c3, .pointer (some ⟨b6, 0, none⟩), .slice A462 l461.length c463, .int .i64 y581.2, .int .i64 x467, .slice A469 l468.length c470, .int .i64 a0_6, .int .i64 x472, .int .i64 x473, .int .i64 x474] 58, Blk b6 [.slice A476 l475.length c477, .int .i64 x479, .int .i64 a0_1_2] 89, Row (Kd.int .i64) 3 (.slice A476 l475.length c477) l475, Row (Kd.int .i64) 3 (.slice A469 l468.length c470) l468, Row (Kd.int .i64) 3 (.slice A21 n24 c22) l480]) [0, 1, 2, 3, 4] 5 (Gd.le.refl _) rfl rfl rfl ⟨rfl, A476, c477, A462, c463, A469, c470, rfl, rfl, hr464, hl465⟩)
 ·
  refine TC.block ?_
  intro a W hF hO
  have hS : ∃ (l342 : (List Int)) (x343 : Int) (l344 : (List Int)) (x349 : Int) (x350 : Int) (l351 : (List Int)) (x355 : Int) (x356 : Int) (x357 : Int) (l358 : (List Int)) (x362 : Int) (A345 : Option Addr) (c346 : Nat) (A352 : Option Addr) (c353 : Nat) (A359 : Option Addr) (c360 : Nat), trace_runner_block.l0 rec82 a0_0 a0_1_2 a0_6 a1 (a1.f0.length + 1) l342 x343 l344 x349 x350 l351 x355 x356 x357 l358 x362 = some o481 ∧ Rd G (Kd.int .i64) A345 l344 ∧ l344.length ≤ c346 ∧ Fr 45 a [(0, .pointer (some ⟨b1, 0, none⟩)), (2, .slice A21 n24 c22), (13, .slice A17 a1.f0.length c18), (14, .int .i64 (a1.f0.length : Int)), (15, .int .i64 x343)] ∧ Own G (Blk b1 [.slice A2 a0_0.length c3, .pointer (some ⟨b6, 0, none⟩), .slice A345 l344.length c346, .int .i64 x349, .int .i64 x350, .slice A352 l351.length c353, .int .i64 a0_6, .int .i64 x355, .int .i64 x356, .int .i64 x357] 58 :: Blk b6 [.slice A359 l358.length c360, .int .i64 x362, .int .i64 a0_1_2] 89 :: Row (Kd.int .i64) 3 (.slice A21 n24 c22) l342 :: Row (Kd.int .i64) 3 (.slice A352 l351.length c353) l351 :: Row (Kd.int .i64) 3 (.slice A359 l358.length c360) l358 :: L) W := by
   exact ⟨a2, 0, a0_2, a0_3, a0_4, a0_5, a0_7, a0_8, a0_9, a0_1_0, a0_1_1, A10, c11, A14, c15, A7, c8, ho481, hr12, hl13, hF.sub ⟨rfl, rfl, rfl, rfl, rfl, trivial⟩, hO.selT (Ls := [Blk b1 [.slice A2 a0_0.length c3, .pointer (some ⟨b6, 0, none⟩), .slice A10 a0_2.length c11, .int .i64 a0_3, .int .i64 a0_4, .slice A14 a0_5.length c15, .int .i64 a0_6, .int .i64 a0_7, .int .i64 a0_8, .int .i64 a0_9] 58, Blk b6 [.slice A7 a0_1_0.length c8, .int .i64 a0_1_1, .int .i64 a0_1_2] 89, Row (Kd.int .i64) 3 (.slice A21 n24 c22) a2, Row (Kd.int .i64) 3 (.slice A14 a0_5.length c15) a0_5, Row (Kd.int .i64) 3 (.slice A7 a0_1_0.length c8) a0_1_0]) [1, 2, 5, 4, 3] 6 rfl rfl rfl⟩
  clear hF hO ho481
  refine TC.loop (fun n482 a W => ∃ (l342 : (List Int)) (x343 : Int) (l344 : (List Int)) (x349 : Int) (x350 : Int) (l351 : (List Int)) (x355 : Int) (x356 : Int) (x357 : Int) (l358 : (List Int)) (x362 : Int) (A345 : Option Addr) (c346 : Nat) (A352 : Option Addr) (c353 : Nat) (A359 : Option Addr) (c360 : Nat), trace_runner_block.l0 rec82 a0_0 a0_1_2 a0_6 a1 n482 l342 x343 l344 x349 x350 l351 x355 x356 x357 l358 x362 = some o481 ∧ Rd G (Kd.int .i64) A345 l344 ∧ l344.length ≤ c346 ∧ Fr 45 a [(0, .pointer (some ⟨b1, 0, none⟩)), (2, .slice A21 n24 c22), (13, .slice A17 a1.f0.length c18), (14, .int .i64 (a1.f0.length : Int)), (15, .int .i64 x343)] ∧ Own G (Blk b1 [.slice A2 a0_0.length c3, .pointer (some ⟨b6, 0, none⟩), .slice A345 l344.length c346, .int .i64 x349, .int .i64 x350, .slice A352 l351.length c353, .int .i64 a0_6, .int .i64 x355, .int .i64 x356, .int .i64 x357] 58 :: Blk b6 [.slice A359 l358.length c360, .int .i64 x362, .int .i64 a0_1_2] 89 :: Row (Kd.int .i64) 3 (.slice A21 n24 c22) l342 :: Row (Kd.int .i64) 3 (.slice A352 l351.length c353) l351 :: Row (Kd.int .i64) 3 (.slice A359 l358.length c360) l358 :: L) W) ?_ ?_ hS
  ·
   rintro a W ⟨l342, x343, l344, x349, x350, l351, x355, x356, x357, l358, x362, A345, c346, A352, c353, A359, c360, h, hr347, hl348, hF, hO⟩
   exact none_no h
  ·
   clear hS
   rintro n482 a W ⟨l342, x343, l344, x349, x350, l351, x355, x356, x357, l358, x362, A345, c346, A352, c353, A359, c360, h, hr347, hl348, hF, hO⟩
   rw [trace_runner_block.l0] at h
   refine TC.use ?_ hF hO
   clear hF hO
   refine TC.seq ?_
   refine TC.region ?_
   refine TL.cons (TO.val rfl rfl rfl (Val.cmp rfl rfl run_lss) ?_)
   refine TL.nil ?_
   refine TQ.then_ ?_
   refine TC.seq ?_
   refine TC.cond_p rfl h (fun hc584 h => ?_) (fun hc584 h => ?_)
   ·
    refine TC.skip ?_
    refine TQ.then_ ?_
    refine TC.seq ?_
    refine TC.block ?_
    refine TC.seq ?_
    refine TC.region ?_
    obtain ⟨y633, hx634, h⟩ := bind_no h
    obtain ⟨ad635, cs641, hA636, hi637, hj638, hcl639, hK640⟩ := Rd.at hr19 hx634
    obtain ⟨A642, c643, rfl, hr644, hl645⟩ := k37_openR hK640
    refine TL.cons (TO.val rfl rfl rfl (Val.indexAddr Try.underlying38 fsz37 rfl hA636 rfl hi637 hj638) ?_)
    refine TL.cons (TO.val rfl rfl rfl (Val.loadsS (cs := [.int .i64 y633.f0, .int .i64 y633.f1, .int .i64 y633.f2, .int .i64 y633.f3, .int .i64 y633.f4, .slice A642 y633.f5.length c643]) agg37 fsz37 rfl rfl (Cl.sub (off := 0) (n := 6) hcl639 rfl)) ?_)
    refine TL.cons (TL.alloc (cs := [.int .i64 0, .int .i64 0, .int .i64 0, .int .i64 0, .int .i64 0, .slice none 0 0]) rfl rfl zr37 rfl (fun b646 => ?_))
    refine TL.cons (TL.store 0 (ds := [.int .i64 y633.f0, .int .i64 y633.f1, .int .i64 y633.f2, .int .i64 y633.f3, .int .i64 y633.f4, .slice A642 y633.f5.length c643]) (cs' := [.int .i64 y633.f0, .int .i64 y633.f1, .int .i64 y633.f2, .int .i64 y633.f3, .int .i64 y633.f4, .slice A642 y633.f5.length c643]) (L' := (Blk b646 [.int .i64 y633.f0, .int .i64 y633.f1, .int .i64 y633.f2, .int .i64 y633.f3, .int .i64 y633.f4, .slice A642 y633.f5.length c643] 37 :: Blk b1 [.slice A2 a0_0.length c3, .pointer (some ⟨b6, 0, none⟩), .slice A345 l344.length c346, .int .i64 x349, .int .i64 x350, .slice A352 l351.length c353, .int .i64 a0_6, .int .i64 x355, .int .i64 x356, .int .i64 x357] 58 :: Blk b6 [.slice A359 l358.length c360, .int .i64 x362, .int .i64 a0_1_2] 89 :: Row (Kd.int .i64) 3 (.slice A21 n24 c22) l342 :: Row (Kd.int .i64) 3 (.slice A352 l351.length c353) l351 :: Row (Kd.int .i64) 3 (.slice A359 l358.length c360) l358 :: L)) rfl fsz37 rfl rfl rfl rfl rfl (Nat.le_of_ble_eq_true rfl) rfl rfl ?_)
    refine TL.nil ?_
    refine TQ.then_ ?_
    refine TC.seq ?_
    refine TC.seq ?_
    refine TC.region ?_
    refine TL.cons (TO.val rfl rfl rfl (Val.move rfl) ?_)
    refine TK.sel (Ls := [Blk b1 [.slice A2 a0_0.length c3, .pointer (some ⟨b6, 0, none⟩), .slice A345 l344.length c346, .int .i64 x349, .int .i64 x350, .slice A352 l351.length c353, .int .i64 a0_6, .int .i64 x355, .int .i64 x356, .int .i64 x357] 58, Blk b6 [.slice A359 l358.length c360, .int .i64 x362, .int .i64 a0_1_2] 89, Row (Kd.int .i64) 3 (.slice A359 l358.length c360) l358, Row (Kd.int .i64) 3 (.slice A352 l351.length c353) l351, Blk b646 [.int .i64 y633.f0, .int .i64 y633.f1, .int .i64 y633.f2, .int .i64 y633.f3, .int .i64 y633.f4, .slice A642 y633.f5.length c643] 37, Row (Kd.int .i64) 3 (.slice A21 n24 c22) l342]) [1, 2, 5, 4, 0, 3] 6 rfl rfl rfl ?_
    obtain ⟨y647, hy648, h⟩ := bind_no h
    refine TL.cons (TL.callV (Lin := [Blk b1 [.slice A2 a0_0.length c3, .pointer (some ⟨b6, 0, none⟩), .slice A345 l344.length c346, .int .i64 x349, .int .i64 x350, .slice A352 l351.length c353, .int .i64 a0_6, .int .i64 x355, .int .i64 x356, .int .i64 x357] 58, Blk b6 [.slice A359 l358.length c360, .int .i64 x362, .int .i64 a0_1_2] 89, Row (Kd.int .i64) 3 (.slice A359 l358.length c360) l358, Row (Kd.int .i64) 3 (.slice A352 l351.length c353) l351]) (args := [.pointer (some ⟨b1, 0, none⟩)]) rfl rfl rfl hbd81 rfl rfl (trace_runner_pay.calls (a0_0 := a0_0) (a0_1_0 := l358) (a0_1_1 := x362) (a0_1_2 := a0_1_2) (a0_2 := l344) (a0_3 := x349) (a0_4 := x350) (a0_5 := l351) (a0_6 := a0_6) (a0_7 := x355) (a0_8 := x356) (a0_9 := x357) hr4 hl5 hr347 hl348 hy648) rfl ?_)
    rintro _ _ _ _ ⟨rfl, rfl, rfl⟩
    refine TL.cons (TO.val rfl rfl rfl (Val.assign rfl) ?_)
    refine TL.nil ?_
    refine TQ.then_ ?_
    refine TC.seq ?_
    refine TC.region ?_
    refine TL.cons (TO.val rfl rfl rfl (Val.move rfl) ?_)
    refine TL.cons (TO.val rfl rfl rfl (Val.cmp rfl rfl run_neq) ?_)
    refine TL.nil ?_
    refine TQ.then_ ?_
    refine TC.cond_b rfl h (fun hc650 h => ?_) (fun hc650 h => ?_)
    ·
     refine TC.seq ?_
     refine TC.region ?_
     refine TL.cons (TO.val rfl rfl rfl (Val.move rfl) ?_)
     refine TL.cons (TO.val rfl rfl rfl (Val.assign rfl) ?_)
     refine TL.nil ?_
     refine TQ.then_ ?_
     refine TC.ret ?_
     refine TQ.thenR ?_
     refine TQ.inBR ?_
     refine TQ.thenR ?_
     refine TQ.thenR ?_
     refine TQ.inBR ?_
     refine TQ.thenR ?_
     refine TQ.thenR ?_
     obtain rfl := Option.some.inj h
     have h := ko481
     obtain rfl := Option.some.inj h
     exact TQ.fin (.inl rfl) rfl Try.results58 (.tmp rfl .nil) rfl (FRel.mk (Ls := [Blk b1 [.slice A2 a0_0.length c3, .pointer (some ⟨b6, 0, none⟩), .slice A345 l344.length c346, .int .i64 y647.2, .int .i64 x350, .slice A352 l351.length c353, .int .i64 a0_6, .int .i64 x355, .int .i64 x356, .int .i64 x357] 58, Blk b6 [.slice A359 l358.length c360, .int .i64 x362, .int .i64 a0_1_2] 89, Row (Kd.int .i64) 3 (.slice A359 l358.length c360) l358, Row (Kd.int .i64) 3 (.slice A352 l351.length c353) l351, Row (Kd.int .i64) 3 (.slice A21 n24 c22) l342]) [0, 1, 2, 3, 5] 6 (Gd.le.refl _) rfl rfl rfl ⟨rfl, A359, c360, A345, c346, A352, c353, rfl, rfl, hr347, hl348⟩)
    ·
     refine TC.skip ?_
     refine TQ.then_ ?_
     refine TC.seq ?_
     refine TC.region ?_
     refine TL.cons (TO.val rfl rfl rfl (Val.move rfl) ?_)
     refine TL.cons (TO.val rfl rfl rfl (Val.loadsB 4 (cs := [.int .i64 y633.f0, .int .i64 y633.f1, .int .i64 y633.f2, .int .i64 y633.f3, .int .i64 y633.f4, .slice A642 y633.f5.length c643]) agg37 fsz37 rfl rfl rfl rfl) ?_)
     refine TL.cons (TO.val rfl rfl rfl (Val.move rfl) ?_)
     refine TK.sel (Ls := [Blk b1 [.slice A2 a0_0.length c3, .pointer (some ⟨b6, 0, none⟩), .slice A345 l344.length c346, .int .i64 y647.2, .int .i64 x350, .slice A352 l351.length c353, .int .i64 a0_6, .int .i64 x355, .int .i64 x356, .int .i64 x357] 58, Blk b6 [.slice A359 l358.length c360, .int .i64 x362, .int .i64 a0_1_2] 89, Row (Kd.int .i64) 3 (.slice A359 l358.length c360) l358, Row (Kd.int .i64) 3 (.slice A352 l351.length c353) l351, Row (Kd.int .i64) 3 (.slice A21 n24 c22) l342, Blk b646 [.int .i64 y633.f0, .int .i64 y633.f1, .int .i64 y633.f2, .int .i64 y633.f3, .int .i64 y633.f4, .slice A642 y633.f5.length c643] 37]) [0, 1, 2, 3, 5, 4] 6 rfl rfl rfl ?_
     obtain ⟨y651, hy652, h⟩ := bind_no h
     refine TL.cons (TL.callV (Lin := [Blk b1 [.slice A2 a0_0.length c3, .pointer (some ⟨b6, 0, none⟩), .slice A345 l344.length c346, .int .i64 y647.2, .int .i64 x350, .slice A352 l351.length c353, .int .i64 a0_6, .int .i64 x355, .int .i64 x356, .int .i64 x357] 58, Blk b6 [.slice A359 l358.length c360, .int .i64 x362, .int .i64 a0_1_2] 89, Row (Kd.int .i64) 3 (.slice A359 l358.length c360) l358, Row (Kd.int .i64) 3 (.slice A352 l351.length c353) l351, Row (Kd.int .i64) 3 (.slice A21 n24 c22) l342]) (args := [.pointer (some ⟨b1, 0, none⟩), .agg #[.int .i64 y633.f0, .int .i64 y633.f1, .int .i64 y633.f2, .int .i64 y633.f3, .int .i64 y633.f4, .slice A642 y633.f5.length c643], .slice A21 n24 c22]) rfl rfl rfl hbd82 rfl rfl (ih82 (a0_0 := a0_0) (a0_1_0 := l358) (a0_1_1 := x362) (a0_1_2 := a0_1_2) (a0_2 := l344) (a0_3 := y647.2) (a0_4 := x350) (a0_5 := l351) (a0_6 := a0_6) (a0_7 := x355) (a0_8 := x356) (a0_9 := x357) (a1 := y633) (a2 := l342) hr4 hl5 hr347 hl348 hr644 hl645 hy652) rfl ?_)
     rintro _ _ _ _ ⟨rfl, A653, c654, A656, c657, A660, c661, rfl, rfl, hr658, hl659⟩
     refine TL.cons (TO.val rfl rfl rfl (Val.move rfl) ?_)
     refine TL.cons (TO.val rfl rfl rfl (Val.extract rfl rfl) ?_)
     refine TL.cons (TO.val rfl rfl rfl (Val.extract rfl rfl) ?_)
     refine TL.cons (TO.val rfl rfl rfl (Val.assign rfl) ?_)
     refine TL.cons (TO.val rfl rfl rfl (Val.assign rfl) ?_)
     refine TL.nil ?_
     refine TQ.then_ ?_
     refine TC.seq ?_
     refine TC.seq ?_
     refine TC.region ?_
     refine TL.cons (TO.val rfl rfl rfl (Val.move rfl) ?_)
     refine TL.cons (TO.val rfl rfl rfl (Val.cmp rfl rfl run_neq) ?_)
     refine TL.nil ?_
     refine TQ.then_ ?_
     refine TC.cond_b rfl h (fun hc664 h => ?_) (fun hc664 h => ?_)
     ·
      refine TC.seq ?_
      refine TC.region ?_
      refine TL.cons (TO.val rfl rfl rfl (Val.move rfl) ?_)
      refine TL.cons (TO.val rfl rfl rfl (Val.assign rfl) ?_)
      refine TL.nil ?_
      refine TQ.then_ ?_
      refine TC.ret ?_
      refine TQ.thenR ?_
      refine TQ.inBR ?_
      refine TQ.thenR ?_
      refine TQ.thenR ?_
      refine TQ.inBR ?_
      refine TQ.thenR ?_
      refine TQ.thenR ?_
      obtain rfl := Option.some.inj h
      have h := ko481
      obtain rfl := Option.some.inj h
      exact TQ.fin (.inl rfl) rfl Try.results58 (.tmp rfl .nil) rfl (FRel.mk (Ls := [Blk b1 [.slice A2 a0_0.length c3, .pointer (some ⟨b6, 0, none⟩), .slice A656 y651.2.2.2.2.1.length c657, .int .i64 y651.2.2.2.2.2.1, .int .i64 y651.2.2.2.2.2.2.1, .slice A660 y651.2.2.2.2.2.2.2.1.length c661, .int .i64 a0_6, .int .i64 y651.2.2.2.2.2.2.2.2.1, .int .i64 y651.2.2.2.2.2.2.2.2.2.1, .int .i64 y651.2.2.2.2.2.2.2.2.2.2] 58, Blk b6 [.slice A653 y651.2.2.1.length c654, .int .i64 y651.2.2.2.1, .int .i64 a0_1_2] 89, Row (Kd.int .i64) 3 (.slice A653 y651.2.2.1.length c654) y651.2.2.1, Row (Kd.int .i64) 3 (.slice A660 y651.2.2.2.2.2.2.2.1.length c661) y651.2.2.2.2.2.2.2.1, Row (Kd.int .i64) 3 (.slice A21 n24 c22) l342]) [0, 1, 2, 3, 4] 6 (Gd.le.refl _) rfl rfl rfl ⟨rfl, A653, c654, A656, c657, A660, c661, rfl, rfl, hr658, hl659⟩)
     ·
      refine TC.skip ?_
      refine TQ.then_ ?_
      refine TC.seq ?_
      refine TC.region ?_
      refine TL.cons (TO.val rfl rfl rfl (Val.fieldAddrB Try.underlying37 rfl fsz3 rfl rfl rfl) ?_)
      refine TL.cons (TO.val rfl rfl rfl (Val.loadB 5 agg3 rfl rfl rfl) ?_)
      refine TL.cons (TO.val rfl rfl rfl (Val.cmp rfl rfl run_neq) ?_)
      refine TL.nil ?_
      refine TQ.then_ ?_
      obtain ⟨j673, hj673, h⟩ := jn_no h
      refine TC.tail (fun a W => ∃ (l672 : (List Int)), j673 l672 = some o481 ∧ Fr 45 a [(0, .pointer (some ⟨b1, 0, none⟩)), (2, .slice A21 n24 c22), (13, .slice A17 a1.f0.length c18), (14, .int .i64 (a1.f0.length : Int)), (15, .int .i64 x343)] ∧ Own G (Blk b1 [.slice A2 a0_0.length c3, .pointer (some ⟨b6, 0, none⟩), .slice A656 y651.2.2.2.2.1.length c657, .int .i64 y651.2.2.2.2.2.1, .int .i64 y651.2.2.2.2.2.2.1, .slice A660 y651.2.2.2.2.2.2.2.1.length c661, .int .i64 a0_6, .int .i64 y651.2.2.2.2.2.2.2.2.1, .int .i64 y651.2.2.2.2.2.2.2.2.2.1, .int .i64 y651.2.2.2.2.2.2.2.2.2.2] 58 :: Blk b6 [.slice A653 y651.2.2.1.length c654, .int .i64 y651.2.2.2.1, .int .i64 a0_1_2] 89 :: Row (Kd.int .i64) 3 (.slice A21 n24 c22) l672 :: Row (Kd.int .i64) 3 (.slice A660 y651.2.2.2.2.2.2.2.1.length c661) y651.2.2.2.2.2.2.2.1 :: Row (Kd.int .i64) 3 (.slice A653 y651.2.2.1.length c654) y651.2.2.1 :: L) W) ?_ ?_
      ·
       rintro a W ⟨l672, h, hF, hO⟩
       rw [hj673] at h
       refine TQ.use ?_ hF hO
       clear hF hO
       refine TQ.inB ?_
       refine TQ.then_ ?_
       refine TC.region ?_
       refine TL.cons (TO.val rfl rfl rfl (Val.cmp rfl rfl run_add) ?_)
       refine TL.cons (TO.val rfl rfl rfl (Val.move rfl) ?_)
       refine TL.nil ?_
       exact fun a W hF hO => ⟨l672, IntKind.i64.wrap (x343 + 1), y651.2.2.2.2.1, y651.2.2.2.2.2.1, y651.2.2.2.2.2.2.1, y651.2.2.2.2.2.2.2.1, y651.2.2.2.2.2.2.2.2.1, y651.2.2.2.2.2.2.2.2.2.1, y651.2.2.2.2.2.2.2.2.2.2, y651.2.2.1, y651.2.2.2.1, A656, c657, A660, c661, A653, c654, h, hr658, hl659, hF.sub ⟨rfl, rfl, rfl, rfl, rfl, trivial⟩, hO.selT (Ls := [Blk b1 [.slice A2 a0_0.length c3, .pointer (some ⟨b6, 0, none⟩), .slice A656 y651.2.2.2.2.1.length c657, .int .i64 y651.2.2.2.2.2.1, .int .i64 y651.2.2.2.2.2.2.1, .slice A660 y651.2.2.2.2.2.2.2.1.length c661, .int .i64 a0_6, .int .i64 y651.2.2.2.2.2.2.2.2.1, .int .i64 y651.2.2.2.2.2.2.2.2.2.1, .int .i64 y651.2.2.2.2.2.2.2.2.2.2] 58, Blk b6 [.slice A653 y651.2.2.1.length c654, .int .i64 y651.2.2.2.1, .int .i64 a0_1_2] 89, Row (Kd.int .i64) 3 (.slice A21 n24 c22) l672, Row (Kd.int .i64) 3 (.slice A660 y651.2.2.2.2.2.2.2.1.length c661) y651.2.2.2.2.2.2.2.1, Row (Kd.int .i64) 3 (.slice A653 y651.2.2.1.length c654) y651.2.2.1]) [0, 1, 2, 3, 4] 5 rfl rfl rfl⟩
      ·
       refine TC.cond_b rfl h (fun hc674 h => ?_) (fun hc674 h => ?_)
       ·
        refine TC.region ?_
        refine TL.cons (TO.val rfl rfl rfl (Val.move rfl) ?_)
        refine TL.cons (TO.val rfl rfl rfl (Val.fieldAddrB Try.underlying37 rfl fsz3 rfl rfl rfl) ?_)
        refine TL.cons (TO.val rfl rfl rfl (Val.loadB 5 agg3 rfl rfl rfl) ?_)
        refine TL.cons (TO.val rfl rfl rfl (Val.move rfl) ?_)
        obtain ⟨y675, hy676, h⟩ := bind_no h
        refine TK.opened 4 rfl hy676 (fun b677 hA678 hi679 hj680 => ?_)
        refine TL.cons (TO.val rfl rfl rfl (Val.indexAddrW Try.underlying23 fsz3 rfl hA678 rfl hi679 hj680) ?_)
        refine TK.new (El.of (k := (Kd.int .i64)) (xv := y651.1) (cs := [.int .i64 y651.1]) (fun W B => rfl)) ?_
        refine TK.sel (Ls := [Row (Kd.int .i64) 3 (.slice A21 n24 c22) l342, El (Kd.int .i64) y651.1 [.int .i64 y651.1], Blk b1 [.slice A2 a0_0.length c3, .pointer (some ⟨b6, 0, none⟩), .slice A656 y651.2.2.2.2.1.length c657, .int .i64 y651.2.2.2.2.2.1, .int .i64 y651.2.2.2.2.2.2.1, .slice A660 y651.2.2.2.2.2.2.2.1.length c661, .int .i64 a0_6, .int .i64 y651.2.2.2.2.2.2.2.2.1, .int .i64 y651.2.2.2.2.2.2.2.2.2.1, .int .i64 y651.2.2.2.2.2.2.2.2.2.2] 58, Blk b6 [.slice A653 y651.2.2.1.length c654, .int .i64 y651.2.2.2.1, .int .i64 a0_1_2] 89, Row (Kd.int .i64) 3 (.slice A653 y651.2.2.1.length c654) y651.2.2.1, Row (Kd.int .i64) 3 (.slice A660 y651.2.2.2.2.2.2.2.1.length c661) y651.2.2.2.2.2.2.2.1, Blk b646 [.int .i64 y633.f0, .int .i64 y633.f1, .int .i64 y633.f2, .int .i64 y633.f3, .int .i64 y633.f4, .slice A642 y633.f5.length c643] 37]) [5, 0, 1, 2, 3, 4, 6] 7 rfl rfl rfl ?_
        refine TL.cons (TL.storeE (Kd.int .i64) (xs := l342) (xv := y651.1) (ds := [.int .i64 y651.1]) rfl fsz3 hA678 hy676 rfl rfl rfl rfl (Nat.le_of_ble_eq_true rfl) (wholeM rfl) ?_)
        refine TL.nil ?_
        exact fun a W hF hO => ⟨(l342.set y633.f1.toNat y651.1), h, hF.sub ⟨rfl, rfl, rfl, rfl, rfl, trivial⟩, hO.selT (Ls := [Blk b1 [.slice A2 a0_0.length c3, .pointer (some ⟨b6, 0, none⟩), .slice A656 y651.2.2.2.2.1.length c657, .int .i64 y651.2.2.2.2.2.1, .int .i64 y651.2.2.2.2.2.2.1, .slice A660 y651.2.2.2.2.2.2.2.1.length c661, .int .i64 a0_6, .int .i64 y651.2.2.2.2.2.2.2.2.1, .int .i64 y651.2.2.2.2.2.2.2.2.2.1, .int .i64 y651.2.2.2.2.2.2.2.2.2.2] 58, Blk b6 [.slice A653 y651.2.2.1.length c654, .int .i64 y651.2.2.2.1, .int .i64 a0_1_2] 89, Row (Kd.int .i64) 3 (.slice A21 n24 c22) (l342.set y633.f1.toNat y651.1), Row (Kd.int .i64) 3 (.slice A660 y651.2.2.2.2.2.2.2.1.length c661) y651.2.2.2.2.2.2.2.1, Row (Kd.int .i64) 3 (.slice A653 y651.2.2.1.length c654) y651.2.2.1]) [1, 2, 0, 4, 3] 6 rfl rfl rfl⟩
       ·
        refine TC.skip ?_
        exact fun a W hF hO => ⟨l342, h, hF.sub ⟨rfl, rfl, rfl, rfl, rfl, trivial⟩, hO.selT (Ls := [Blk b1 [.slice A2 a0_0.length c3, .pointer (some ⟨b6, 0, none⟩), .slice A656 y651.2.2.2.2.1.length c657, .int .i64 y651.2.2.2.2.2.1, .int .i64 y651.2.2.2.2.2.2.1, .slice A660 y651.2.2.2.2.2.2.2.1.length c661, .int .i64 a0_6, .int .i64 y651.2.2.2.2.2.2.2.2.1, .int .i64 y651.2.2.2.2.2.2.2.2.2.1, .int .i64 y651.2.2.2.2.2.2.2.2.2.2] 58, Blk b6 [.slice A653 y651.2.2.1.length c654, .int .i64 y651.2.2.2.1, .int .i64 a0_1_2] 89, Row (Kd.int .i64) 3 (.slice A21 n24 c22) l342, Row (Kd.int .i64) 3 (.slice A660 y651.2.2.2.2.2.2.2.1.length c661) y651.2.2.2.2.2.2.2.1, Row (Kd.int .i64) 3 (.slice A653 y651.2.2.1.length c654) y651.2.2.1]) [0, 1, 4, 3, 2] 6 rfl rfl rfl⟩
   ·
    refine TC.exit ?_
    refine TQ.thenX ?_
    refine TQ.thenX ?_
    refine TQ.inBX ?_
    exact fun a W hF hO => ⟨l344, x349, x350, l351, x355, x356, x357, l358, x362, l342, A345, c346, A352, c353, A359, c360, Option.some.inj h, hr347, hl348, hF.sub ⟨rfl, trivial⟩, hO.selT (Ls := [Blk b1 [.slice A2 a0_0.length c3, .pointer (some ⟨b6, 0, none⟩), .slice A345 l344.length c346, .int .i64 x349, .int .i64 x350, .slice A352 l351.length c353, .int .i64 a0_6, .int .i64 x355, .int .i64 x356, .int .i64 x357] 58, Blk b6 [.slice A359 l358.length c360, .int .i64 x362, .int .i64 a0_1_2] 89, Row (Kd.int .i64) 3 (.slice A352 l351.length c353) l351, Row (Kd.int .i64) 3 (.slice A359 l358.length c360) l358, Row (Kd.int .i64) 3 (.slice A21 n24 c22) l342]) [0, 1, 3, 4, 2] 5 rfl rfl rfl⟩
def trace_runner_value.l0 (a1 : S37) (a2 : (List Int)) : Nat → (List Int) → Int → Option ((List Int))
 | 0, _, _ => none
 | n4951 + 1, l4876, x4881 => (if x4881 < (a1.f5.length : Int) then (at? a1.f5 x4881).bind fun y5099 => (at? a2 y5099).bind fun y5115 => (at? l4876 x4881).bind fun y5124 => trace_runner_value.l0 a1 a2 n4951 (l4876.set x4881.toNat y5115) (IntKind.i64.wrap (x4881 + 1)) else some l4876)
def trace_runner_value.g (rec28 : ((List S45) → (List Int) → Int → Int → (List Int) → Int → Int → (List Int) → Int → Int → Int → Int → S45 → (List Int) → Option (Int × Int × (List Int) × Int × (List Int) × Int × Int × (List Int) × Int × Int × Int))) (rec58 : ((List S45) → (List Int) → Int → Int → (List Int) → Int → Int → (List Int) → Int → Int → Int → Int → S42 → (List Int) → Option (Int × (List Int) × Int × (List Int) × Int × Int × (List Int) × Int × Int × Int × (List Int)))) (rec82 : ((List S45) → (List Int) → Int → Int → (List Int) → Int → Int → (List Int) → Int → Int → Int → Int → S37 → (List Int) → Option (Int × Int × (List Int) × Int × (List Int) × Int × Int × (List Int) × Int × Int × Int))) (a0_0 : (List S45)) (a0_1_0 : (List Int)) (a0_1_1 : Int) (a0_1_2 : Int) (a0_2 : (List Int)) (a0_3 : Int) (a0_4 : Int) (a0_5 : (List Int)) (a0_6 : Int) (a0_7 : Int) (a0_8 : Int) (a0_9 : Int) (a1 : S37) (a2 : (List Int)) : Option (Int × Int × (List Int) × Int × (List Int) × Int × Int × (List Int) × Int × Int × Int) := (if a1.f0 = 1 then some (a1.f4, 0, a0_1_0, a0_1_1, a0_2, a0_3, a0_4, a0_5, a0_7, a0_8, a0_9) else (if a1.f0 = 3 then (at? a2 a1.f2).bind fun y3041 => some (y3041, 0, a0_1_0, a0_1_1, a0_2, a0_3, a0_4, a0_5, a0_7, a0_8, a0_9) else (if a1.f0 = 2 then (at? a2 a1.f2).bind fun y3519 => (at? a2 a1.f3).bind fun y3528 => (word_Do.f a1.f4 y3519 y3528).bind fun (y3537 : (Int × Int)) => some (y3537.1, y3537.2, a0_1_0, a0_1_1, a0_2, a0_3, a0_4, a0_5, a0_7, a0_8, a0_9) else (if a1.f0 = 8 then (trace_runner_read.f a0_0 a0_1_0 a0_1_1 a0_1_2 a0_2 a0_3 a0_4 a0_5 a0_6 a0_7 a0_8 a0_9).bind fun (y3919 : (Int × Int × (List Int))) => some (y3919.1, y3919.2.1, a0_1_0, a0_1_1, y3919.2.2, a0_3, a0_4, a0_5, a0_7, a0_8, a0_9) else (if a1.f0 = 9 then (at? a2 a1.f2).bind fun y4325 => (if a0_5.length < 17592186044416 then some (0, 0, a0_1_0, a0_1_1, a0_2, a0_3, a0_4, (a0_5 ++ [y4325]), a0_7, a0_8, a0_9) else none) else (if a1.f0 = 7 then (if 0 ≤ (a1.f5.length : Int) ∧ (a1.f5.length : Int) ≤ 17592186044416 then (trace_runner_value.l0 a1 a2 (a1.f5.length + 1) (List.replicate (a1.f5.length : Int).toNat (0 : Int)) 0).bind fun (l4946 : (List Int)) => (at? a0_0 a1.f4).bind fun y5041 => (rec28 a0_0 a0_1_0 a0_1_1 a0_1_2 a0_2 a0_3 a0_4 a0_5 a0_6 a0_7 a0_8 a0_9 y5041 l4946).bind fun (y5054 : (Int × Int × (List Int) × Int × (List Int) × Int × Int × (List Int) × Int × Int × Int)) => some (y5054.1, y5054.2.1, y5054.2.2.1, y5054.2.2.2.1, y5054.2.2.2.2.1, y5054.2.2.2.2.2.1, y5054.2.2.2.2.2.2.1, y5054.2.2.2.2.2.2.2.1, y5054.2.2.2.2.2.2.2.2.1, y5054.2.2.2.2.2.2.2.2.2.1, y5054.2.2.2.2.2.2.2.2.2.2) else none) else (trace_runner_cells.f a0_0 a0_1_0 a0_1_1 a0_1_2 a0_2 a0_3 a0_4 a0_5 a0_6 a0_7 a0_8 a0_9 a1 a2).bind fun (y5130 : (Int × Int × (List Int) × Int × Int × Int × Int)) => some (y5130.1, y5130.2.1, y5130.2.2.1, y5130.2.2.2.1, a0_2, a0_3, a0_4, a0_5, y5130.2.2.2.2.1, y5130.2.2.2.2.2.1, y5130.2.2.2.2.2.2)))))))
theorem trace_runner_value.step (rec28 : ((List S45) → (List Int) → Int → Int → (List Int) → Int → Int → (List Int) → Int → Int → Int → Int → S45 → (List Int) → Option (Int × Int × (List Int) × Int × (List Int) × Int × Int × (List Int) × Int × Int × Int))) (rec58 : ((List S45) → (List Int) → Int → Int → (List Int) → Int → Int → (List Int) → Int → Int → Int → Int → S42 → (List Int) → Option (Int × (List Int) × Int × (List Int) × Int × Int × (List Int) × Int × Int × Int × (List Int)))) (rec82 : ((List S45) → (List Int) → Int → Int → (List Int) → Int → Int → (List Int) → Int → Int → Int → Int → S37 → (List Int) → Option (Int × Int × (List Int) × Int × (List Int) × Int × Int × (List Int) × Int × Int × Int))) (ih28 : ∀ {G : Gd} {r : (Int × Int × (List Int) × Int × (List Int) × Int × Int × (List Int) × Int × Int × Int)} {a0_0 : (List S45)} {a0_1_0 : (List Int)} {a0_1_1 : Int} {a0_1_2 : Int} {a0_2 : (List Int)} {a0_3 : Int} {a0_4 : Int} {a0_5 : (List Int)} {a0_6 : Int} {a0_7 : Int} {a0_8 : Int} {a0_9 : Int} {a1 : S45} {a2 : (List Int)} {b1 : Nat} {A2 : Option Addr} {c3 : Nat} {b6 : Nat} {A7 : Option Addr} {c8 : Nat} {A10 : Option Addr} {c11 : Nat} {A14 : Option Addr} {c15 : Nat} {A17 : Option Addr} {c18 : Nat} {A21 : Option Addr} {c22 : Nat} {n24 : Nat} (hr4 : Rd G k45 A2 a0_0) (hl5 : a0_0.length ≤ c3) (hr12 : Rd G (Kd.int .i64) A10 a0_2) (hl13 : a0_2.length ≤ c11) (hr19 : Rd G k42 A17 a1.f1) (hl20 : a1.f1.length ≤ c18), rec28 a0_0 a0_1_0 a0_1_1 a0_1_2 a0_2 a0_3 a0_4 a0_5 a0_6 a0_7 a0_8 a0_9 a1 a2 = some r → Fn Try.prog 28 G [Blk b1 [.slice A2 a0_0.length c3, .pointer (some ⟨b6, 0, none⟩), .slice A10 a0_2.length c11, .int .i64 a0_3, .int .i64 a0_4, .slice A14 a0_5.length c15, .int .i64 a0_6, .int .i64 a0_7, .int .i64 a0_8, .int .i64 a0_9] 58, Blk b6 [.slice A7 a0_1_0.length c8, .int .i64 a0_1_1, .int .i64 a0_1_2] 89, Row (Kd.int .i64) 3 (.slice A7 a0_1_0.length c8) a0_1_0, Row (Kd.int .i64) 3 (.slice A14 a0_5.length c15) a0_5, Row (Kd.int .i64) 3 (.slice A21 n24 c22) a2] [.pointer (some ⟨b1, 0, none⟩), .agg #[.int .i64 a1.f0, .slice A17 a1.f1.length c18], .slice A21 n24 c22] (trace_runner_call.post G b1 A2 c3 b6 A7 c8 A10 c11 A14 c15 A17 c18 A21 c22 n24 a0_0 a0_1_0 a0_1_1 a0_1_2 a0_2 a0_3 a0_4 a0_5 a0_6 a0_7 a0_8 a0_9 a1 a2 r)) (ih58 : ∀ {G : Gd} {r : (Int × (List Int) × Int × (List Int) × Int × Int × (List Int) × Int × Int × Int × (List Int))} {a0_0 : (List S45)} {a0_1_0 : (List Int)} {a0_1_1 : Int} {a0_1_2 : Int} {a0_2 : (List Int)} {a0_3 : Int} {a0_4 : Int} {a0_5 : (List Int)} {a0_6 : Int} {a0_7 : Int} {a0_8 : Int} {a0_9 : Int} {a1 : S42} {a2 : (List Int)} {b1 : Nat} {A2 : Option Addr} {c3 : Nat} {b6 : Nat} {A7 : Option Addr} {c8 : Nat} {A10 : Option Addr} {c11 : Nat} {A14 : Option Addr} {c15 : Nat} {A17 : Option Addr} {c18 : Nat} {A21 : Option Addr} {c22 : Nat} {n24 : Nat} (hr4 : Rd G k45 A2 a0_0) (hl5 : a0_0.length ≤ c3) (hr12 : Rd G (Kd.int .i64) A10 a0_2) (hl13 : a0_2.length ≤ c11) (hr19 : Rd G k37 A17 a1.f0) (hl20 : a1.f0.length ≤ c18), rec58 a0_0 a0_1_0 a0_1_1 a0_1_2 a0_2 a0_3 a0_4 a0_5 a0_6 a0_7 a0_8 a0_9 a1 a2 = some r → Fn Try.prog 58 G [Blk b1 [.slice A2 a0_0.length c3, .pointer (some ⟨b6, 0, none⟩), .slice A10 a0_2.length c11, .int .i64 a0_3, .int .i64 a0_4, .slice A14 a0_5.length c15, .int .i64 a0_6, .int .i64 a0_7, .int .i64 a0_8, .int .i64 a0_9] 58, Blk b6 [.slice A7 a0_1_0.length c8, .int .i64 a0_1_1, .int .i64 a0_1_2] 89, Row (Kd.int .i64) 3 (.slice A7 a0_1_0.length c8) a0_1_0, Row (Kd.int .i64) 3 (.slice A14 a0_5.length c15) a0_5, Row (Kd.int .i64) 3 (.slice A21 n24 c22) a2] [.pointer (some ⟨b1, 0, none⟩), .agg #[.slice A17 a1.f0.length c18, .int .i64 a1.f1.f0, .int .i64 a1.f1.f1, .int .i64 a1.f1.f2, .int .i64 a1.f1.f3], .slice A21 n24 c22] (trace_runner_block.post G b1 A2 c3 b6 A7 c8 A10 c11 A14 c15 A17 c18 A21 c22 n24 a0_0 a0_1_0 a0_1_1 a0_1_2 a0_2 a0_3 a0_4 a0_5 a0_6 a0_7 a0_8 a0_9 a1 a2 r)) (ih82 : ∀ {G : Gd} {r : (Int × Int × (List Int) × Int × (List Int) × Int × Int × (List Int) × Int × Int × Int)} {a0_0 : (List S45)} {a0_1_0 : (List Int)} {a0_1_1 : Int} {a0_1_2 : Int} {a0_2 : (List Int)} {a0_3 : Int} {a0_4 : Int} {a0_5 : (List Int)} {a0_6 : Int} {a0_7 : Int} {a0_8 : Int} {a0_9 : Int} {a1 : S37} {a2 : (List Int)} {b1 : Nat} {A2 : Option Addr} {c3 : Nat} {b6 : Nat} {A7 : Option Addr} {c8 : Nat} {A10 : Option Addr} {c11 : Nat} {A14 : Option Addr} {c15 : Nat} {A17 : Option Addr} {c18 : Nat} {A21 : Option Addr} {c22 : Nat} {n24 : Nat} (hr4 : Rd G k45 A2 a0_0) (hl5 : a0_0.length ≤ c3) (hr12 : Rd G (Kd.int .i64) A10 a0_2) (hl13 : a0_2.length ≤ c11) (hr19 : Rd G (Kd.int .i64) A17 a1.f5) (hl20 : a1.f5.length ≤ c18), rec82 a0_0 a0_1_0 a0_1_1 a0_1_2 a0_2 a0_3 a0_4 a0_5 a0_6 a0_7 a0_8 a0_9 a1 a2 = some r → Fn Try.prog 82 G [Blk b1 [.slice A2 a0_0.length c3, .pointer (some ⟨b6, 0, none⟩), .slice A10 a0_2.length c11, .int .i64 a0_3, .int .i64 a0_4, .slice A14 a0_5.length c15, .int .i64 a0_6, .int .i64 a0_7, .int .i64 a0_8, .int .i64 a0_9] 58, Blk b6 [.slice A7 a0_1_0.length c8, .int .i64 a0_1_1, .int .i64 a0_1_2] 89, Row (Kd.int .i64) 3 (.slice A7 a0_1_0.length c8) a0_1_0, Row (Kd.int .i64) 3 (.slice A14 a0_5.length c15) a0_5, Row (Kd.int .i64) 3 (.slice A21 n24 c22) a2] [.pointer (some ⟨b1, 0, none⟩), .agg #[.int .i64 a1.f0, .int .i64 a1.f1, .int .i64 a1.f2, .int .i64 a1.f3, .int .i64 a1.f4, .slice A17 a1.f5.length c18], .slice A21 n24 c22] (trace_runner_value.post G b1 A2 c3 b6 A7 c8 A10 c11 A14 c15 A17 c18 A21 c22 n24 a0_0 a0_1_0 a0_1_1 a0_1_2 a0_2 a0_3 a0_4 a0_5 a0_6 a0_7 a0_8 a0_9 a1 a2 r)) {G : Gd} {r : (Int × Int × (List Int) × Int × (List Int) × Int × Int × (List Int) × Int × Int × Int)} {a0_0 : (List S45)} {a0_1_0 : (List Int)} {a0_1_1 : Int} {a0_1_2 : Int} {a0_2 : (List Int)} {a0_3 : Int} {a0_4 : Int} {a0_5 : (List Int)} {a0_6 : Int} {a0_7 : Int} {a0_8 : Int} {a0_9 : Int} {a1 : S37} {a2 : (List Int)} {b1 : Nat} {A2 : Option Addr} {c3 : Nat} {b6 : Nat} {A7 : Option Addr} {c8 : Nat} {A10 : Option Addr} {c11 : Nat} {A14 : Option Addr} {c15 : Nat} {A17 : Option Addr} {c18 : Nat} {A21 : Option Addr} {c22 : Nat} {n24 : Nat} (hr4 : Rd G k45 A2 a0_0) (hl5 : a0_0.length ≤ c3) (hr12 : Rd G (Kd.int .i64) A10 a0_2) (hl13 : a0_2.length ≤ c11) (hr19 : Rd G (Kd.int .i64) A17 a1.f5) (hl20 : a1.f5.length ≤ c18) (h : trace_runner_value.g rec28 rec58 rec82 a0_0 a0_1_0 a0_1_1 a0_1_2 a0_2 a0_3 a0_4 a0_5 a0_6 a0_7 a0_8 a0_9 a1 a2 = some r) : Fn Try.prog 82 G [Blk b1 [.slice A2 a0_0.length c3, .pointer (some ⟨b6, 0, none⟩), .slice A10 a0_2.length c11, .int .i64 a0_3, .int .i64 a0_4, .slice A14 a0_5.length c15, .int .i64 a0_6, .int .i64 a0_7, .int .i64 a0_8, .int .i64 a0_9] 58, Blk b6 [.slice A7 a0_1_0.length c8, .int .i64 a0_1_1, .int .i64 a0_1_2] 89, Row (Kd.int .i64) 3 (.slice A7 a0_1_0.length c8) a0_1_0, Row (Kd.int .i64) 3 (.slice A14 a0_5.length c15) a0_5, Row (Kd.int .i64) 3 (.slice A21 n24 c22) a2] [.pointer (some ⟨b1, 0, none⟩), .agg #[.int .i64 a1.f0, .int .i64 a1.f1, .int .i64 a1.f2, .int .i64 a1.f3, .int .i64 a1.f4, .slice A17 a1.f5.length c18], .slice A21 n24 c22] (trace_runner_value.post G b1 A2 c3 b6 A7 c8 A10 c11 A14 c15 A17 c18 A21 c22 n24 a0_0 a0_1_0 a0_1_1 a0_1_2 a0_2 a0_3 a0_4 a0_5 a0_6 a0_7 a0_8 a0_9 a1 a2 r) := by
 refine Fn.intro (e := [(0, .pointer (some ⟨b1, 0, none⟩)), (1, .agg #[.int .i64 a1.f0, .int .i64 a1.f1, .int .i64 a1.f2, .int .i64 a1.f3, .int .i64 a1.f4, .slice A17 a1.f5.length c18]), (2, .slice A21 n24 c22)]) 106 Try.func82 rfl Try.ntmps82 rfl rfl (Nat.le_of_ble_eq_true rfl) (fun L => ?_)
 unfold trace_runner_value.g at h
 refine TC.seq ?_
 refine TC.region ?_
 refine TL.cons (TL.box (cs := [.int .i64 a1.f0, .int .i64 a1.f1, .int .i64 a1.f2, .int .i64 a1.f3, .int .i64 a1.f4, .slice A17 a1.f5.length c18]) rfl rfl rfl rfl (fun b25 => ?_))
 refine TL.cons (TO.val rfl rfl rfl (Val.assign rfl) ?_)
 refine TL.cons (TO.val rfl rfl rfl (Val.assign rfl) ?_)
 refine TL.nil ?_
 refine TQ.then_ ?_
 refine TC.seq ?_
 refine TC.seq ?_
 refine TC.region ?_
 refine TL.cons (TO.val rfl rfl rfl (Val.fieldAddrB Try.underlying37 rfl fsz3 rfl rfl rfl) ?_)
 refine TL.cons (TO.val rfl rfl rfl (Val.loadB 0 agg3 rfl rfl rfl) ?_)
 refine TL.nil ?_
 refine TQ.then_ ?_
 refine TC.block ?_
 refine TC.seq ?_
 refine TC.region ?_
 refine TL.cons (TO.val rfl rfl rfl (Val.cmp rfl rfl run_eql) ?_)
 refine TL.cons (TO.val rfl rfl rfl (Val.assign rfl) ?_)
 refine TL.nil ?_
 refine TQ.then_ ?_
 refine TC.cond_p rfl h (fun hc2581 h => ?_) (fun hc2581 h => ?_)
 ·
  refine TC.seq ?_
  refine TC.region ?_
  refine TL.cons (TO.val rfl rfl rfl (Val.fieldAddrB Try.underlying37 rfl fsz3 rfl rfl rfl) ?_)
  refine TL.cons (TO.val rfl rfl rfl (Val.loadB 0 agg3 rfl rfl rfl) ?_)
  refine TL.cons (TO.val rfl rfl rfl (Val.assign rfl) ?_)
  refine TL.cons (TO.val rfl rfl rfl (Val.assign rfl) ?_)
  refine TL.nil ?_
  refine TQ.then_ ?_
  refine TC.ret ?_
  refine TQ.inBR ?_
  refine TQ.thenR ?_
  obtain rfl := Option.some.inj h
  exact TQ.fin (.inl rfl) rfl Try.results82 (.tmp rfl (.tmp rfl .nil)) rfl (FRel.mk (Ls := [Blk b1 [.slice A2 a0_0.length c3, .pointer (some ⟨b6, 0, none⟩), .slice A10 a0_2.length c11, .int .i64 a0_3, .int .i64 a0_4, .slice A14 a0_5.length c15, .int .i64 a0_6, .int .i64 a0_7, .int .i64 a0_8, .int .i64 a0_9] 58, Blk b6 [.slice A7 a0_1_0.length c8, .int .i64 a0_1_1, .int .i64 a0_1_2] 89, Row (Kd.int .i64) 3 (.slice A7 a0_1_0.length c8) a0_1_0, Row (Kd.int .i64) 3 (.slice A14 a0_5.length c15) a0_5, Row (Kd.int .i64) 3 (.slice A21 n24 c22) a2]) [1, 2, 3, 4, 5] 6 (Gd.le.refl _) rfl rfl rfl ⟨rfl, A7, c8, A10, c11, A14, c15, rfl, rfl, hr12, hl13⟩)
 ·
  refine TC.seq ?_
  refine TC.region ?_
  refine TL.cons (TO.val rfl rfl rfl (Val.cmp rfl rfl run_eql) ?_)
  refine TL.cons (TO.val rfl rfl rfl (Val.assign rfl) ?_)
  refine TL.nil ?_
  refine TQ.then_ ?_
  refine TC.cond_p rfl h (fun hc3033 h => ?_) (fun hc3033 h => ?_)
  ·
   refine TC.seq ?_
   refine TC.region ?_
   refine TL.cons (TO.val rfl rfl rfl (Val.move rfl) ?_)
   refine TL.cons (TO.val rfl rfl rfl (Val.fieldAddrB Try.underlying37 rfl fsz3 rfl rfl rfl) ?_)
   refine TL.cons (TO.val rfl rfl rfl (Val.loadB 0 agg3 rfl rfl rfl) ?_)
   refine TK.rowlen 5 rfl (fun hl3034 => ?_)
   refine TK.sel (Ls := [Row (Kd.int .i64) 3 (.slice A21 n24 c22) a2, Blk b25 [.int .i64 a1.f0, .int .i64 a1.f1, .int .i64 a1.f2, .int .i64 a1.f3, .int .i64 a1.f4, .slice A17 a1.f5.length c18] 37, Blk b1 [.slice A2 a0_0.length c3, .pointer (some ⟨b6, 0, none⟩), .slice A10 a0_2.length c11, .int .i64 a0_3, .int .i64 a0_4, .slice A14 a0_5.length c15, .int .i64 a0_6, .int .i64 a0_7, .int .i64 a0_8, .int .i64 a0_9] 58, Blk b6 [.slice A7 a0_1_0.length c8, .int .i64 a0_1_1, .int .i64 a0_1_2] 89, Row (Kd.int .i64) 3 (.slice A7 a0_1_0.length c8) a0_1_0, Row (Kd.int .i64) 3 (.slice A14 a0_5.length c15) a0_5]) [5, 0, 1, 2, 3, 4] 6 rfl rfl rfl ?_
   refine TK.share (fun G3035 e3036 hs3037 hb3038 => ?_)
   have rd3039 : Rd G3035 (Kd.int .i64) A21 a2 := Rd.row hs3037
   have le3040 : a2.length ≤ c22 := Row.le hs3037
   obtain ⟨y3041, hx3042, h⟩ := bind_no h
   obtain ⟨ad3043, cs3049, hA3044, hi3045, hj3046, hcl3047, hK3048⟩ := Rd.at rd3039 hx3042
   obtain rfl := RdK.int hK3048
   refine TL.cons (TO.val rfl rfl rfl (Val.indexAddr Try.underlying23 fsz3 rfl hA3044 rfl hi3045 (by omega)) ?_)
   refine TL.cons (TO.val rfl rfl rfl (Val.loadS agg3 rfl (hcl3047 0 _ rfl)) ?_)
   refine TL.cons (TO.val rfl rfl rfl (Val.assign rfl) ?_)
   refine TL.cons (TO.val rfl rfl rfl (Val.assign rfl) ?_)
   refine TL.nil ?_
   refine TQ.then_ ?_
   refine TC.ret ?_
   refine TQ.inBR ?_
   refine TQ.thenR ?_
   refine TQ.back hb3038 ?_
   obtain rfl := Option.some.inj h
   exact TQ.fin (.inl rfl) rfl Try.results82 (.tmp rfl (.tmp rfl .nil)) rfl (FRel.mk (Ls := [Blk b1 [.slice A2 a0_0.length c3, .pointer (some ⟨b6, 0, none⟩), .slice A10 a0_2.length c11, .int .i64 a0_3, .int .i64 a0_4, .slice A14 a0_5.length c15, .int .i64 a0_6, .int .i64 a0_7, .int .i64 a0_8, .int .i64 a0_9] 58, Blk b6 [.slice A7 a0_1_0.length c8, .int .i64 a0_1_1, .int .i64 a0_1_2] 89, Row (Kd.int .i64) 3 (.slice A7 a0_1_0.length c8) a0_1_0, Row (Kd.int .i64) 3 (.slice A14 a0_5.length c15) a0_5, Row (Kd.int .i64) 3 (.slice A21 n24 c22) a2]) [2, 3, 4, 5, 0] 6 (Gd.le.refl _) rfl rfl rfl ⟨rfl, A7, c8, A10, c11, A14, c15, rfl, rfl, hr12, hl13⟩)
  ·
   refine TC.seq ?_
   refine TC.region ?_
   refine TL.cons (TO.val rfl rfl rfl (Val.cmp rfl rfl run_eql) ?_)
   refine TL.cons (TO.val rfl rfl rfl (Val.assign rfl) ?_)
   refine TL.nil ?_
   refine TQ.then_ ?_
   refine TC.cond_p rfl h (fun hc3484 h => ?_) (fun hc3484 h => ?_)
   ·
    refine TC.seq ?_
    refine TC.rowlen 5 rfl (fun hl3512 => ?_)
    refine TC.sel (Ls := [Row (Kd.int .i64) 3 (.slice A21 n24 c22) a2, Blk b25 [.int .i64 a1.f0, .int .i64 a1.f1, .int .i64 a1.f2, .int .i64 a1.f3, .int .i64 a1.f4, .slice A17 a1.f5.length c18] 37, Blk b1 [.slice A2 a0_0.length c3, .pointer (some ⟨b6, 0, none⟩), .slice A10 a0_2.length c11, .int .i64 a0_3, .int .i64 a0_4, .slice A14 a0_5.length c15, .int .i64 a0_6, .int .i64 a0_7, .int .i64 a0_8, .int .i64 a0_9] 58, Blk b6 [.slice A7 a0_1_0.length c8, .int .i64 a0_1_1, .int .i64 a0_1_2] 89, Row (Kd.int .i64) 3 (.slice A7 a0_1_0.length c8) a0_1_0, Row (Kd.int .i64) 3 (.slice A14 a0_5.length c15) a0_5]) [5, 0, 1, 2, 3, 4] 6 rfl rfl rfl ?_
    refine TC.share (fun G3513 e3514 hs3515 hb3516 => ?_)
    have rd3517 : Rd G3513 (Kd.int .i64) A21 a2 := Rd.row hs3515
    have le3518 : a2.length ≤ c22 := Row.le hs3515
    refine TC.regionAny [] [0, 1, 2, 3, 4, 5, 6, 7, 8, 9, 10, 11, 13, 14, 15, 16] mixed (by kernel_rfl) ?_
    refine TA.take 0 rfl (by kernel_rfl) rfl (PQ.then_ (PQ.inB (PQ.then_ PQ.body))) rfl (Val.fieldAddrB Try.underlying37 rfl fsz3 rfl rfl rfl) (fun W hO => hO) ?_
    refine TA.take 1 rfl (by kernel_rfl) rfl (PQ.then_ (PQ.inB (PQ.then_ PQ.body))) rfl (Val.loadB 0 agg3 rfl rfl rfl) (fun W hO => hO) ?_
    refine TA.take 2 rfl (by kernel_rfl) rfl (PQ.then_ (PQ.inB (PQ.then_ PQ.body))) rfl (Val.move rfl) (fun W hO => hO) ?_
    refine TA.take 3 rfl (by kernel_rfl) rfl (PQ.then_ (PQ.inB (PQ.then_ PQ.body))) rfl (Val.fieldAddrB Try.underlying37 rfl fsz3 rfl rfl rfl) (fun W hO => hO) ?_
    refine TA.take 4 rfl (by kernel_rfl) rfl (PQ.then_ (PQ.inB (PQ.then_ PQ.body))) rfl (Val.loadB 0 agg3 rfl rfl rfl) (fun W hO => hO) ?_
    obtain ⟨y3519, hx3520, h⟩ := bind_no h
    obtain ⟨ad3521, cs3527, hA3522, hi3523, hj3524, hcl3525, hK3526⟩ := Rd.at rd3517 hx3520
    obtain rfl := RdK.int hK3526
    refine TA.take 5 rfl (by kernel_rfl) rfl (PQ.then_ (PQ.inB (PQ.then_ PQ.body))) rfl (Val.indexAddr Try.underlying23 fsz3 rfl hA3522 rfl hi3523 (by omega)) (fun W hO => hO) ?_
    refine TA.take 6 rfl (by kernel_rfl) rfl (PQ.then_ (PQ.inB (PQ.then_ PQ.body))) rfl (Val.loadS agg3 rfl (hcl3525 0 _ rfl)) (fun W hO => hO) ?_
    refine TA.take 7 rfl (by kernel_rfl) rfl (PQ.then_ (PQ.inB (PQ.then_ PQ.body))) rfl (Val.move rfl) (fun W hO => hO) ?_
    refine TA.take 8 rfl (by kernel_rfl) rfl (PQ.then_ (PQ.inB (PQ.then_ PQ.body))) rfl (Val.fieldAddrB Try.underlying37 rfl fsz3 rfl rfl rfl) (fun W hO => hO) ?_
    refine TA.take 9 rfl (by kernel_rfl) rfl (PQ.then_ (PQ.inB (PQ.then_ PQ.body))) rfl (Val.loadB 0 agg3 rfl rfl rfl) (fun W hO => hO) ?_
    obtain ⟨y3528, hx3529, h⟩ := bind_no h
    obtain ⟨ad3530, cs3536, hA3531, hi3532, hj3533, hcl3534, hK3535⟩ := Rd.at rd3517 hx3529
    obtain rfl := RdK.int hK3535
    refine TA.take 10 rfl (by kernel_rfl) rfl (PQ.then_ (PQ.inB (PQ.then_ PQ.body))) rfl (Val.indexAddr Try.underlying23 fsz3 rfl hA3531 rfl hi3532 (by omega)) (fun W hO => hO) ?_
    refine TA.take 11 rfl (by kernel_rfl) rfl (PQ.then_ (PQ.inB (PQ.then_ PQ.body))) rfl (Val.loadS agg3 rfl (hcl3534 0 _ rfl)) (fun W hO => hO) ?_
    obtain ⟨y3537, hy3538, h⟩ := bind_no h
    refine TA.eff 12 rfl (by kernel_rfl) rfl (TL.callV (Lin := []) (args := [.int .i64 a1.f4, .int .i64 y3519, .int .i64 y3528]) rfl rfl rfl hbd19 rfl rfl (word_Do.calls (a0 := a1.f4) (a1 := y3519) (a2 := y3528) hy3538) rfl ?_)
    rintro _ _ _ _ ⟨rfl, rfl, rfl⟩
    refine TA.next (fun W hO => hO) ?_
    refine TA.take 13 rfl (by kernel_rfl) rfl (PQ.then_ (PQ.inB (PQ.then_ PQ.body))) rfl (Val.extract rfl rfl) (fun W hO => hO) ?_
    refine TA.take 14 rfl (by kernel_rfl) rfl (PQ.then_ (PQ.inB (PQ.then_ PQ.body))) rfl (Val.extract rfl rfl) (fun W hO => hO) ?_
    refine TA.take 15 rfl (by kernel_rfl) rfl (PQ.then_ (PQ.inB (PQ.then_ PQ.body))) rfl (Val.assign rfl) (fun W hO => hO) ?_
    refine TA.take 16 rfl (by kernel_rfl) rfl (PQ.then_ (PQ.inB (PQ.then_ PQ.body))) rfl (Val.assign rfl) (fun W hO => hO) ?_
    refine TA.done (by kernel_rfl) ?_
    refine TQ.then_ ?_
    refine TC.ret ?_
    refine TQ.inBR ?_
    refine TQ.thenR ?_
    refine TQ.back hb3516 ?_
    obtain rfl := Option.some.inj h
    exact TQ.fin (.inl rfl) rfl Try.results82 (.tmp rfl (.tmp rfl .nil)) rfl (FRel.mk (Ls := [Blk b1 [.slice A2 a0_0.length c3, .pointer (some ⟨b6, 0, none⟩), .slice A10 a0_2.length c11, .int .i64 a0_3, .int .i64 a0_4, .slice A14 a0_5.length c15, .int .i64 a0_6, .int .i64 a0_7, .int .i64 a0_8, .int .i64 a0_9] 58, Blk b6 [.slice A7 a0_1_0.length c8, .int .i64 a0_1_1, .int .i64 a0_1_2] 89, Row (Kd.int .i64) 3 (.slice A7 a0_1_0.length c8) a0_1_0, Row (Kd.int .i64) 3 (.slice A14 a0_5.length c15) a0_5, Row (Kd.int .i64) 3 (.slice A21 n24 c22) a2]) [2, 3, 4, 5, 0] 6 (Gd.le.refl _) rfl rfl rfl ⟨rfl, A7, c8, A10, c11, A14, c15, rfl, rfl, hr12, hl13⟩)
   ·
    refine TC.seq ?_
    refine TC.region ?_
    refine TL.cons (TO.val rfl rfl rfl (Val.cmp rfl rfl run_eql) ?_)
    refine TL.cons (TO.val rfl rfl rfl (Val.assign rfl) ?_)
    refine TL.nil ?_
    refine TQ.then_ ?_
    refine TC.cond_p rfl h (fun hc3918 h => ?_) (fun hc3918 h => ?_)
    ·
     refine TC.seq ?_
     refine TC.region ?_
     refine TL.cons (TO.val rfl rfl rfl (Val.move rfl) ?_)
     refine TK.sel (Ls := [Blk b1 [.slice A2 a0_0.length c3, .pointer (some ⟨b6, 0, none⟩), .slice A10 a0_2.length c11, .int .i64 a0_3, .int .i64 a0_4, .slice A14 a0_5.length c15, .int .i64 a0_6, .int .i64 a0_7, .int .i64 a0_8, .int .i64 a0_9] 58, Blk b6 [.slice A7 a0_1_0.length c8, .int .i64 a0_1_1, .int .i64 a0_1_2] 89, Row (Kd.int .i64) 3 (.slice A7 a0_1_0.length c8) a0_1_0, Row (Kd.int .i64) 3 (.slice A14 a0_5.length c15) a0_5, Blk b25 [.int .i64 a1.f0, .int .i64 a1.f1, .int .i64 a1.f2, .int .i64 a1.f3, .int .i64 a1.f4, .slice A17 a1.f5.length c18] 37, Row (Kd.int .i64) 3 (.slice A21 n24 c22) a2]) [1, 2, 3, 4, 0, 5] 6 rfl rfl rfl ?_
     obtain ⟨y3919, hy3920, h⟩ := bind_no h
     refine TL.cons (TL.callV (Lin := [Blk b1 [.slice A2 a0_0.length c3, .pointer (some ⟨b6, 0, none⟩), .slice A10 a0_2.length c11, .int .i64 a0_3, .int .i64 a0_4, .slice A14 a0_5.length c15, .int .i64 a0_6, .int .i64 a0_7, .int .i64 a0_8, .int .i64 a0_9] 58, Blk b6 [.slice A7 a0_1_0.length c8, .int .i64 a0_1_1, .int .i64 a0_1_2] 89, Row (Kd.int .i64) 3 (.slice A7 a0_1_0.length c8) a0_1_0, Row (Kd.int .i64) 3 (.slice A14 a0_5.length c15) a0_5]) (args := [.pointer (some ⟨b1, 0, none⟩)]) rfl rfl rfl hbd106 rfl rfl (trace_runner_read.calls (a0_0 := a0_0) (a0_1_0 := a0_1_0) (a0_1_1 := a0_1_1) (a0_1_2 := a0_1_2) (a0_2 := a0_2) (a0_3 := a0_3) (a0_4 := a0_4) (a0_5 := a0_5) (a0_6 := a0_6) (a0_7 := a0_7) (a0_8 := a0_8) (a0_9 := a0_9) hr4 hl5 hr12 hl13 hy3920) rfl ?_)
     rintro _ _ _ _ ⟨rfl, A3921, c3922, rfl, rfl, hr3923, hl3924⟩
     refine TL.cons (TO.val rfl rfl rfl (Val.extract rfl rfl) ?_)
     refine TL.cons (TO.val rfl rfl rfl (Val.extract rfl rfl) ?_)
     refine TL.cons (TO.val rfl rfl rfl (Val.assign rfl) ?_)
     refine TL.cons (TO.val rfl rfl rfl (Val.assign rfl) ?_)
     refine TL.nil ?_
     refine TQ.then_ ?_
     refine TC.ret ?_
     refine TQ.inBR ?_
     refine TQ.thenR ?_
     obtain rfl := Option.some.inj h
     exact TQ.fin (.inl rfl) rfl Try.results82 (.tmp rfl (.tmp rfl .nil)) rfl (FRel.mk (Ls := [Blk b1 [.slice A2 a0_0.length c3, .pointer (some ⟨b6, 0, none⟩), .slice A3921 y3919.2.2.length c3922, .int .i64 a0_3, .int .i64 a0_4, .slice A14 a0_5.length c15, .int .i64 a0_6, .int .i64 a0_7, .int .i64 a0_8, .int .i64 a0_9] 58, Blk b6 [.slice A7 a0_1_0.length c8, .int .i64 a0_1_1, .int .i64 a0_1_2] 89, Row (Kd.int .i64) 3 (.slice A7 a0_1_0.length c8) a0_1_0, Row (Kd.int .i64) 3 (.slice A14 a0_5.length c15) a0_5, Row (Kd.int .i64) 3 (.slice A21 n24 c22) a2]) [0, 1, 2, 3, 5] 6 (Gd.le.refl _) rfl rfl rfl ⟨rfl, A7, c8, A3921, c3922, A14, c15, rfl, rfl, hr3923, hl3924⟩)
    ·
     refine TC.seq ?_
     refine TC.region ?_
     refine TL.cons (TO.val rfl rfl rfl (Val.cmp rfl rfl run_eql) ?_)
     refine TL.cons (TO.val rfl rfl rfl (Val.assign rfl) ?_)
     refine TL.nil ?_
     refine TQ.then_ ?_
     refine TC.cond_p rfl h (fun hc4297 h => ?_) (fun hc4297 h => ?_)
     ·
      refine TC.seq ?_
      refine TC.rowlen 5 rfl (fun hl4318 => ?_)
      refine TC.sel (Ls := [Row (Kd.int .i64) 3 (.slice A21 n24 c22) a2, Blk b25 [.int .i64 a1.f0, .int .i64 a1.f1, .int .i64 a1.f2, .int .i64 a1.f3, .int .i64 a1.f4, .slice A17 a1.f5.length c18] 37, Blk b1 [.slice A2 a0_0.length c3, .pointer (some ⟨b6, 0, none⟩), .slice A10 a0_2.length c11, .int .i64 a0_3, .int .i64 a0_4, .slice A14 a0_5.length c15, .int .i64 a0_6, .int .i64 a0_7, .int .i64 a0_8, .int .i64 a0_9] 58, Blk b6 [.slice A7 a0_1_0.length c8, .int .i64 a0_1_1, .int .i64 a0_1_2] 89, Row (Kd.int .i64) 3 (.slice A7 a0_1_0.length c8) a0_1_0, Row (Kd.int .i64) 3 (.slice A14 a0_5.length c15) a0_5]) [5, 0, 1, 2, 3, 4] 6 rfl rfl rfl ?_
      refine TC.share (fun G4319 e4320 hs4321 hb4322 => ?_)
      have rd4323 : Rd G4319 (Kd.int .i64) A21 a2 := Rd.row hs4321
      have le4324 : a2.length ≤ c22 := Row.le hs4321
      refine TC.regionAnyS (L0 := (Blk b25 [.int .i64 a1.f0, .int .i64 a1.f1, .int .i64 a1.f2, .int .i64 a1.f3, .int .i64 a1.f4, .slice A17 a1.f5.length c18] 37 :: Blk b1 [.slice A2 a0_0.length c3, .pointer (some ⟨b6, 0, none⟩), .slice A10 a0_2.length c11, .int .i64 a0_3, .int .i64 a0_4, .slice A14 a0_5.length c15, .int .i64 a0_6, .int .i64 a0_7, .int .i64 a0_8, .int .i64 a0_9] 58 :: Blk b6 [.slice A7 a0_1_0.length c8, .int .i64 a0_1_1, .int .i64 a0_1_2] 89 :: Row (Kd.int .i64) 3 (.slice A7 a0_1_0.length c8) a0_1_0 :: L)) [16] [0, 1, 2, 3, 4, 5, 6, 7, 8, 9, 10, 13, 14, 15] mixed (by kernel_rfl) ?_
      refine TA.take 0 rfl (by kernel_rfl) rfl (PQ.then_ (PQ.inB (PQ.then_ PQ.body))) rfl (Val.move rfl) (fun W hO => hO.selT (Ls := [Blk b25 [.int .i64 a1.f0, .int .i64 a1.f1, .int .i64 a1.f2, .int .i64 a1.f3, .int .i64 a1.f4, .slice A17 a1.f5.length c18] 37, Blk b1 [.slice A2 a0_0.length c3, .pointer (some ⟨b6, 0, none⟩), .slice A10 a0_2.length c11, .int .i64 a0_3, .int .i64 a0_4, .slice A14 a0_5.length c15, .int .i64 a0_6, .int .i64 a0_7, .int .i64 a0_8, .int .i64 a0_9] 58, Blk b6 [.slice A7 a0_1_0.length c8, .int .i64 a0_1_1, .int .i64 a0_1_2] 89, Row (Kd.int .i64) 3 (.slice A7 a0_1_0.length c8) a0_1_0]) [0, 1, 2, 3] 5 rfl rfl rfl) ?_
      refine TA.take 1 rfl (by kernel_rfl) rfl (PQ.then_ (PQ.inB (PQ.then_ PQ.body))) rfl (Val.move rfl) (fun W hO => hO.selT (Ls := [Blk b25 [.int .i64 a1.f0, .int .i64 a1.f1, .int .i64 a1.f2, .int .i64 a1.f3, .int .i64 a1.f4, .slice A17 a1.f5.length c18] 37, Blk b1 [.slice A2 a0_0.length c3, .pointer (some ⟨b6, 0, none⟩), .slice A10 a0_2.length c11, .int .i64 a0_3, .int .i64 a0_4, .slice A14 a0_5.length c15, .int .i64 a0_6, .int .i64 a0_7, .int .i64 a0_8, .int .i64 a0_9] 58, Blk b6 [.slice A7 a0_1_0.length c8, .int .i64 a0_1_1, .int .i64 a0_1_2] 89, Row (Kd.int .i64) 3 (.slice A7 a0_1_0.length c8) a0_1_0]) [0, 1, 2, 3] 5 rfl rfl rfl) ?_
      refine TA.take 2 rfl (by kernel_rfl) rfl (PQ.then_ (PQ.inB (PQ.then_ PQ.body))) rfl (Val.nilCheck rfl) (fun W hO => hO.selT (Ls := [Blk b25 [.int .i64 a1.f0, .int .i64 a1.f1, .int .i64 a1.f2, .int .i64 a1.f3, .int .i64 a1.f4, .slice A17 a1.f5.length c18] 37, Blk b1 [.slice A2 a0_0.length c3, .pointer (some ⟨b6, 0, none⟩), .slice A10 a0_2.length c11, .int .i64 a0_3, .int .i64 a0_4, .slice A14 a0_5.length c15, .int .i64 a0_6, .int .i64 a0_7, .int .i64 a0_8, .int .i64 a0_9] 58, Blk b6 [.slice A7 a0_1_0.length c8, .int .i64 a0_1_1, .int .i64 a0_1_2] 89, Row (Kd.int .i64) 3 (.slice A7 a0_1_0.length c8) a0_1_0]) [0, 1, 2, 3] 5 rfl rfl rfl) ?_
      refine TA.take 3 rfl (by kernel_rfl) rfl (PQ.then_ (PQ.inB (PQ.then_ PQ.body))) rfl (Val.fieldAddrB Try.underlying58 rfl fsz28 rfl rfl rfl) (fun W hO => hO.selT (Ls := [Blk b25 [.int .i64 a1.f0, .int .i64 a1.f1, .int .i64 a1.f2, .int .i64 a1.f3, .int .i64 a1.f4, .slice A17 a1.f5.length c18] 37, Blk b1 [.slice A2 a0_0.length c3, .pointer (some ⟨b6, 0, none⟩), .slice A10 a0_2.length c11, .int .i64 a0_3, .int .i64 a0_4, .slice A14 a0_5.length c15, .int .i64 a0_6, .int .i64 a0_7, .int .i64 a0_8, .int .i64 a0_9] 58, Blk b6 [.slice A7 a0_1_0.length c8, .int .i64 a0_1_1, .int .i64 a0_1_2] 89, Row (Kd.int .i64) 3 (.slice A7 a0_1_0.length c8) a0_1_0]) [0, 1, 2, 3] 5 rfl rfl rfl) ?_
      refine TA.take 4 rfl (by kernel_rfl) rfl (PQ.then_ (PQ.inB (PQ.then_ PQ.body))) rfl (Val.fieldAddrB Try.underlying28 rfl fsz23 rfl rfl rfl) (fun W hO => hO.selT (Ls := [Blk b25 [.int .i64 a1.f0, .int .i64 a1.f1, .int .i64 a1.f2, .int .i64 a1.f3, .int .i64 a1.f4, .slice A17 a1.f5.length c18] 37, Blk b1 [.slice A2 a0_0.length c3, .pointer (some ⟨b6, 0, none⟩), .slice A10 a0_2.length c11, .int .i64 a0_3, .int .i64 a0_4, .slice A14 a0_5.length c15, .int .i64 a0_6, .int .i64 a0_7, .int .i64 a0_8, .int .i64 a0_9] 58, Blk b6 [.slice A7 a0_1_0.length c8, .int .i64 a0_1_1, .int .i64 a0_1_2] 89, Row (Kd.int .i64) 3 (.slice A7 a0_1_0.length c8) a0_1_0]) [0, 1, 2, 3] 5 rfl rfl rfl) ?_
      refine TA.take 5 rfl (by kernel_rfl) rfl (PQ.then_ (PQ.inB (PQ.then_ PQ.body))) rfl (Val.loadB 1 agg23 rfl rfl rfl) (fun W hO => hO.selT (Ls := [Blk b25 [.int .i64 a1.f0, .int .i64 a1.f1, .int .i64 a1.f2, .int .i64 a1.f3, .int .i64 a1.f4, .slice A17 a1.f5.length c18] 37, Blk b1 [.slice A2 a0_0.length c3, .pointer (some ⟨b6, 0, none⟩), .slice A10 a0_2.length c11, .int .i64 a0_3, .int .i64 a0_4, .slice A14 a0_5.length c15, .int .i64 a0_6, .int .i64 a0_7, .int .i64 a0_8, .int .i64 a0_9] 58, Blk b6 [.slice A7 a0_1_0.length c8, .int .i64 a0_1_1, .int .i64 a0_1_2] 89, Row (Kd.int .i64) 3 (.slice A7 a0_1_0.length c8) a0_1_0]) [0, 1, 2, 3] 5 rfl rfl rfl) ?_
      refine TA.take 6 rfl (by kernel_rfl) rfl (PQ.then_ (PQ.inB (PQ.then_ PQ.body))) rfl (Val.move rfl) (fun W hO => hO.selT (Ls := [Blk b25 [.int .i64 a1.f0, .int .i64 a1.f1, .int .i64 a1.f2, .int .i64 a1.f3, .int .i64 a1.f4, .slice A17 a1.f5.length c18] 37, Blk b1 [.slice A2 a0_0.length c3, .pointer (some ⟨b6, 0, none⟩), .slice A10 a0_2.length c11, .int .i64 a0_3, .int .i64 a0_4, .slice A14 a0_5.length c15, .int .i64 a0_6, .int .i64 a0_7, .int .i64 a0_8, .int .i64 a0_9] 58, Blk b6 [.slice A7 a0_1_0.length c8, .int .i64 a0_1_1, .int .i64 a0_1_2] 89, Row (Kd.int .i64) 3 (.slice A7 a0_1_0.length c8) a0_1_0]) [0, 1, 2, 3] 5 rfl rfl rfl) ?_
      refine TA.take 7 rfl (by kernel_rfl) rfl (PQ.then_ (PQ.inB (PQ.then_ PQ.body))) rfl (Val.fieldAddrB Try.underlying37 rfl fsz3 rfl rfl rfl) (fun W hO => hO.selT (Ls := [Blk b25 [.int .i64 a1.f0, .int .i64 a1.f1, .int .i64 a1.f2, .int .i64 a1.f3, .int .i64 a1.f4, .slice A17 a1.f5.length c18] 37, Blk b1 [.slice A2 a0_0.length c3, .pointer (some ⟨b6, 0, none⟩), .slice A10 a0_2.length c11, .int .i64 a0_3, .int .i64 a0_4, .slice A14 a0_5.length c15, .int .i64 a0_6, .int .i64 a0_7, .int .i64 a0_8, .int .i64 a0_9] 58, Blk b6 [.slice A7 a0_1_0.length c8, .int .i64 a0_1_1, .int .i64 a0_1_2] 89, Row (Kd.int .i64) 3 (.slice A7 a0_1_0.length c8) a0_1_0]) [0, 1, 2, 3] 5 rfl rfl rfl) ?_
      refine TA.take 8 rfl (by kernel_rfl) rfl (PQ.then_ (PQ.inB (PQ.then_ PQ.body))) rfl (Val.loadB 0 agg3 rfl rfl rfl) (fun W hO => hO.selT (Ls := [Blk b25 [.int .i64 a1.f0, .int .i64 a1.f1, .int .i64 a1.f2, .int .i64 a1.f3, .int .i64 a1.f4, .slice A17 a1.f5.length c18] 37, Blk b1 [.slice A2 a0_0.length c3, .pointer (some ⟨b6, 0, none⟩), .slice A10 a0_2.length c11, .int .i64 a0_3, .int .i64 a0_4, .slice A14 a0_5.length c15, .int .i64 a0_6, .int .i64 a0_7, .int .i64 a0_8, .int .i64 a0_9] 58, Blk b6 [.slice A7 a0_1_0.length c8, .int .i64 a0_1_1, .int .i64 a0_1_2] 89, Row (Kd.int .i64) 3 (.slice A7 a0_1_0.length c8) a0_1_0]) [0, 1, 2, 3] 5 rfl rfl rfl) ?_
      obtain ⟨y4325, hx4326, h⟩ := bind_no h
      obtain ⟨ad4327, cs4333, hA4328, hi4329, hj4330, hcl4331, hK4332⟩ := Rd.at rd4323 hx4326
      obtain rfl := RdK.int hK4332
      refine TA.take 9 rfl (by kernel_rfl) rfl (PQ.then_ (PQ.inB (PQ.then_ PQ.body))) rfl (Val.indexAddr Try.underlying23 fsz3 rfl hA4328 rfl hi4329 (by omega)) (fun W hO => hO.selT (Ls := [Blk b25 [.int .i64 a1.f0, .int .i64 a1.f1, .int .i64 a1.f2, .int .i64 a1.f3, .int .i64 a1.f4, .slice A17 a1.f5.length c18] 37, Blk b1 [.slice A2 a0_0.length c3, .pointer (some ⟨b6, 0, none⟩), .slice A10 a0_2.length c11, .int .i64 a0_3, .int .i64 a0_4, .slice A14 a0_5.length c15, .int .i64 a0_6, .int .i64 a0_7, .int .i64 a0_8, .int .i64 a0_9] 58, Blk b6 [.slice A7 a0_1_0.length c8, .int .i64 a0_1_1, .int .i64 a0_1_2] 89, Row (Kd.int .i64) 3 (.slice A7 a0_1_0.length c8) a0_1_0]) [0, 1, 2, 3] 5 rfl rfl rfl) ?_
      refine TA.take 10 rfl (by kernel_rfl) rfl (PQ.then_ (PQ.inB (PQ.then_ PQ.body))) rfl (Val.loadS agg3 rfl (hcl4331 0 _ rfl)) (fun W hO => hO.selT (Ls := [Blk b25 [.int .i64 a1.f0, .int .i64 a1.f1, .int .i64 a1.f2, .int .i64 a1.f3, .int .i64 a1.f4, .slice A17 a1.f5.length c18] 37, Blk b1 [.slice A2 a0_0.length c3, .pointer (some ⟨b6, 0, none⟩), .slice A10 a0_2.length c11, .int .i64 a0_3, .int .i64 a0_4, .slice A14 a0_5.length c15, .int .i64 a0_6, .int .i64 a0_7, .int .i64 a0_8, .int .i64 a0_9] 58, Blk b6 [.slice A7 a0_1_0.length c8, .int .i64 a0_1_1, .int .i64 a0_1_2] 89, Row (Kd.int .i64) 3 (.slice A7 a0_1_0.length c8) a0_1_0]) [0, 1, 2, 3] 5 rfl rfl rfl) ?_
      refine TA.eff 11 rfl (by kernel_rfl) rfl (TL.buildSlice (xs := [.tmp 59]) (vs := [.int .i64 y4325]) (cs := [.int .i64 y4325]) rfl rfl Try.underlying23 zs3 rfl rfl rfl rfl rfl rfl rfl rfl (fun b4334 => ?_))
      refine TA.next (fun W hO => hO.selT (Ls := [Blk b25 [.int .i64 a1.f0, .int .i64 a1.f1, .int .i64 a1.f2, .int .i64 a1.f3, .int .i64 a1.f4, .slice A17 a1.f5.length c18] 37, Blk b1 [.slice A2 a0_0.length c3, .pointer (some ⟨b6, 0, none⟩), .slice A10 a0_2.length c11, .int .i64 a0_3, .int .i64 a0_4, .slice A14 a0_5.length c15, .int .i64 a0_6, .int .i64 a0_7, .int .i64 a0_8, .int .i64 a0_9] 58, Blk b6 [.slice A7 a0_1_0.length c8, .int .i64 a0_1_1, .int .i64 a0_1_2] 89, Row (Kd.int .i64) 3 (.slice A7 a0_1_0.length c8) a0_1_0]) [1, 2, 3, 4] 6 rfl rfl rfl) ?_
      refine TK.new (El.of (k := (Kd.int .i64)) (xv := y4325) (cs := [.int .i64 y4325]) (fun W B => rfl)) ?_
      refine TK.sel (Ls := [Row (Kd.int .i64) 3 (.slice A14 a0_5.length c15) a0_5, El (Kd.int .i64) y4325 [.int .i64 y4325], Blk b4334 [.int .i64 y4325] 3, Blk b25 [.int .i64 a1.f0, .int .i64 a1.f1, .int .i64 a1.f2, .int .i64 a1.f3, .int .i64 a1.f4, .slice A17 a1.f5.length c18] 37, Blk b1 [.slice A2 a0_0.length c3, .pointer (some ⟨b6, 0, none⟩), .slice A10 a0_2.length c11, .int .i64 a0_3, .int .i64 a0_4, .slice A14 a0_5.length c15, .int .i64 a0_6, .int .i64 a0_7, .int .i64 a0_8, .int .i64 a0_9] 58, Blk b6 [.slice A7 a0_1_0.length c8, .int .i64 a0_1_1, .int .i64 a0_1_2] 89, Row (Kd.int .i64) 3 (.slice A7 a0_1_0.length c8) a0_1_0]) [6, 0, 1, 2, 3, 4, 5] 7 rfl rfl rfl ?_
      obtain ⟨ha4335, h⟩ := ite_no h
      refine TA.eff 12 rfl (by kernel_rfl) rfl (TL.append (xs := a0_5) (Kd.int .i64) rfl rfl Try.underlying23 inf3 rfl (Nat.le_of_ble_eq_true rfl) (Nat.le_of_ble_eq_true rfl) rfl rfl (by omega) (fun A4336 c4337 => ?_))
      refine TA.next (fun W hO => hO.selT (Ls := [Blk b25 [.int .i64 a1.f0, .int .i64 a1.f1, .int .i64 a1.f2, .int .i64 a1.f3, .int .i64 a1.f4, .slice A17 a1.f5.length c18] 37, Blk b1 [.slice A2 a0_0.length c3, .pointer (some ⟨b6, 0, none⟩), .slice A10 a0_2.length c11, .int .i64 a0_3, .int .i64 a0_4, .slice A14 a0_5.length c15, .int .i64 a0_6, .int .i64 a0_7, .int .i64 a0_8, .int .i64 a0_9] 58, Blk b6 [.slice A7 a0_1_0.length c8, .int .i64 a0_1_1, .int .i64 a0_1_2] 89, Row (Kd.int .i64) 3 (.slice A7 a0_1_0.length c8) a0_1_0]) [1, 2, 3, 4] 5 rfl rfl rfl) ?_
      refine TA.take 13 rfl (by kernel_rfl) rfl (PQ.then_ (PQ.inB (PQ.then_ PQ.body))) rfl (Val.nilCheck rfl) (fun W hO => hO.selT (Ls := [Blk b25 [.int .i64 a1.f0, .int .i64 a1.f1, .int .i64 a1.f2, .int .i64 a1.f3, .int .i64 a1.f4, .slice A17 a1.f5.length c18] 37, Blk b1 [.slice A2 a0_0.length c3, .pointer (some ⟨b6, 0, none⟩), .slice A10 a0_2.length c11, .int .i64 a0_3, .int .i64 a0_4, .slice A14 a0_5.length c15, .int .i64 a0_6, .int .i64 a0_7, .int .i64 a0_8, .int .i64 a0_9] 58, Blk b6 [.slice A7 a0_1_0.length c8, .int .i64 a0_1_1, .int .i64 a0_1_2] 89, Row (Kd.int .i64) 3 (.slice A7 a0_1_0.length c8) a0_1_0]) [1, 2, 3, 4] 5 rfl rfl rfl) ?_
      refine TA.take 14 rfl (by kernel_rfl) rfl (PQ.then_ (PQ.inB (PQ.then_ PQ.body))) rfl (Val.fieldAddrB Try.underlying58 rfl fsz28 rfl rfl rfl) (fun W hO => hO.selT (Ls := [Blk b25 [.int .i64 a1.f0, .int .i64 a1.f1, .int .i64 a1.f2, .int .i64 a1.f3, .int .i64 a1.f4, .slice A17 a1.f5.length c18] 37, Blk b1 [.slice A2 a0_0.length c3, .pointer (some ⟨b6, 0, none⟩), .slice A10 a0_2.length c11, .int .i64 a0_3, .int .i64 a0_4, .slice A14 a0_5.length c15, .int .i64 a0_6, .int .i64 a0_7, .int .i64 a0_8, .int .i64 a0_9] 58, Blk b6 [.slice A7 a0_1_0.length c8, .int .i64 a0_1_1, .int .i64 a0_1_2] 89, Row (Kd.int .i64) 3 (.slice A7 a0_1_0.length c8) a0_1_0]) [1, 2, 3, 4] 5 rfl rfl rfl) ?_
      refine TA.take 15 rfl (by kernel_rfl) rfl (PQ.then_ (PQ.inB (PQ.then_ PQ.body))) rfl (Val.fieldAddrB Try.underlying28 rfl fsz23 rfl rfl rfl) (fun W hO => hO.selT (Ls := [Blk b25 [.int .i64 a1.f0, .int .i64 a1.f1, .int .i64 a1.f2, .int .i64 a1.f3, .int .i64 a1.f4, .slice A17 a1.f5.length c18] 37, Blk b1 [.slice A2 a0_0.length c3, .pointer (some ⟨b6, 0, none⟩), .slice A10 a0_2.length c11, .int .i64 a0_3, .int .i64 a0_4, .slice A14 a0_5.length c15, .int .i64 a0_6, .int .i64 a0_7, .int .i64 a0_8, .int .i64 a0_9] 58, Blk b6 [.slice A7 a0_1_0.length c8, .int .i64 a0_1_1, .int .i64 a0_1_2] 89, Row (Kd.int .i64) 3 (.slice A7 a0_1_0.length c8) a0_1_0]) [1, 2, 3, 4] 5 rfl rfl rfl) ?_
      refine TA.eff 16 rfl (by kernel_rfl) rfl (TL.store 2 (ds := [.slice A4336 (a0_5 ++ [y4325]).length c4337]) (cs' := [.slice A2 a0_0.length c3, .pointer (some ⟨b6, 0, none⟩), .slice A10 a0_2.length c11, .int .i64 a0_3, .int .i64 a0_4, .slice A4336 (a0_5 ++ [y4325]).length c4337, .int .i64 a0_6, .int .i64 a0_7, .int .i64 a0_8, .int .i64 a0_9]) (L' := (Row (Kd.int .i64) 3 (.slice A4336 (a0_5 ++ [y4325]).length c4337) (a0_5 ++ [y4325]) :: Blk b25 [.int .i64 a1.f0, .int .i64 a1.f1, .int .i64 a1.f2, .int .i64 a1.f3, .int .i64 a1.f4, .slice A17 a1.f5.length c18] 37 :: Blk b1 [.slice A2 a0_0.length c3, .pointer (some ⟨b6, 0, none⟩), .slice A10 a0_2.length c11, .int .i64 a0_3, .int .i64 a0_4, .slice A4336 (a0_5 ++ [y4325]).length c4337, .int .i64 a0_6, .int .i64 a0_7, .int .i64 a0_8, .int .i64 a0_9] 58 :: Blk b6 [.slice A7 a0_1_0.length c8, .int .i64 a0_1_1, .int .i64 a0_1_2] 89 :: Row (Kd.int .i64) 3 (.slice A7 a0_1_0.length c8) a0_1_0 :: L)) rfl fsz23 rfl rfl rfl rfl rfl (Nat.le_of_ble_eq_true rfl) rfl rfl ?_)
      refine TA.last rfl ?_
      refine TA.done (by kernel_rfl) ?_
      refine TQ.then_ ?_
      refine TC.seq ?_
      refine TC.region ?_
      refine TL.cons (TO.val rfl rfl rfl (Val.assign rfl) ?_)
      refine TL.cons (TO.val rfl rfl rfl (Val.assign rfl) ?_)
      refine TL.nil ?_
      refine TQ.then_ ?_
      refine TC.ret ?_
      refine TQ.inBR ?_
      refine TQ.thenR ?_
      refine TQ.back hb4322 ?_
      obtain rfl := Option.some.inj h
      exact TQ.fin (.inl rfl) rfl Try.results82 (.tmp rfl (.tmp rfl .nil)) rfl (FRel.mk (Ls := [Blk b1 [.slice A2 a0_0.length c3, .pointer (some ⟨b6, 0, none⟩), .slice A10 a0_2.length c11, .int .i64 a0_3, .int .i64 a0_4, .slice A4336 (a0_5 ++ [y4325]).length c4337, .int .i64 a0_6, .int .i64 a0_7, .int .i64 a0_8, .int .i64 a0_9] 58, Blk b6 [.slice A7 a0_1_0.length c8, .int .i64 a0_1_1, .int .i64 a0_1_2] 89, Row (Kd.int .i64) 3 (.slice A7 a0_1_0.length c8) a0_1_0, Row (Kd.int .i64) 3 (.slice A4336 (a0_5 ++ [y4325]).length c4337) (a0_5 ++ [y4325]), Row (Kd.int .i64) 3 (.slice A21 n24 c22) a2]) [3, 4, 5, 1, 0] 6 (Gd.le.refl _) rfl rfl rfl ⟨rfl, A7, c8, A10, c11, A4336, c4337, rfl, rfl, hr12, hl13⟩)
     ·
      refine TC.seq ?_
      refine TC.region ?_
      refine TL.cons (TO.val rfl rfl rfl (Val.cmp rfl rfl run_eql) ?_)
      refine TL.cons (TO.val rfl rfl rfl (Val.assign rfl) ?_)
      refine TL.nil ?_
      refine TQ.then_ ?_
      refine TC.cond_p rfl h (fun hc4669 h => ?_) (fun hc4669 h => ?_)
      ·
       refine TC.seq ?_
       refine TC.region ?_
       refine TL.cons (TO.val rfl rfl rfl (Val.fieldAddrB Try.underlying37 rfl fsz23 rfl rfl rfl) ?_)
       refine TL.cons (TO.val rfl rfl rfl (Val.loadB 0 agg23 rfl rfl rfl) ?_)
       refine TL.cons (TO.val rfl rfl rfl (Val.len Try.underlying23 rfl) ?_)
       obtain ⟨ha4670, h⟩ := ite_no h
       refine TL.cons (TL.make (Kd.int .i64) rfl rfl Try.underlying23 inf3 rfl (Nat.le_of_ble_eq_true rfl) (Nat.le_of_ble_eq_true rfl) rfl rfl (fun W B => rfl) ha4670.1 (by have h_ := ha4670.2; omega) (fun A4671 c4672 => ?_))
       refine TL.cons (TO.val rfl rfl rfl (Val.assign rfl) ?_)
       refine TL.nil ?_
       refine TQ.then_ ?_
       refine TC.seq ?_
       refine TC.seq ?_
       refine TC.region ?_
       refine TL.cons (TO.val rfl rfl rfl (Val.fieldAddrB Try.underlying37 rfl fsz23 rfl rfl rfl) ?_)
       refine TL.cons (TO.val rfl rfl rfl (Val.loadB 1 agg23 rfl rfl rfl) ?_)
       refine TL.cons (TO.val rfl rfl rfl (Val.len Try.underlying23 rfl) ?_)
       refine TL.cons (TO.val rfl rfl rfl (Val.move rfl) ?_)
       refine TL.nil ?_
       refine TQ.then_ ?_
       obtain ⟨o4950, ho4950, ko4950⟩ := bind_no h
       clear h
       refine TC.tail (fun a W => ∃ (l4946 : (List Int)) (A4947 : Option Addr) (c4948 : Nat), l4946 = o4950 ∧ Fr 106 a [(0, .pointer (some ⟨b1, 0, none⟩)), (4, .pointer (some ⟨b25, 0, none⟩)), (8, .slice A4947 l4946.length c4948)] ∧ Own G (Blk b1 [.slice A2 a0_0.length c3, .pointer (some ⟨b6, 0, none⟩), .slice A10 a0_2.length c11, .int .i64 a0_3, .int .i64 a0_4, .slice A14 a0_5.length c15, .int .i64 a0_6, .int .i64 a0_7, .int .i64 a0_8, .int .i64 a0_9] 58 :: Blk b25 [.int .i64 a1.f0, .int .i64 a1.f1, .int .i64 a1.f2, .int .i64 a1.f3, .int .i64 a1.f4, .slice A17 a1.f5.length c18] 37 :: Blk b6 [.slice A7 a0_1_0.length c8, .int .i64 a0_1_1, .int .i64 a0_1_2] 89 :: Row (Kd.int .i64) 3 (.slice A4947 l4946.length c4948) l4946 :: Row (Kd.int .i64) 3 (.slice A14 a0_5.length c15) a0_5 :: Row (Kd.int .i64) 3 (.slice A7 a0_1_0.length c8) a0_1_0 :: Row (Kd.int .i64) 3 (.slice A21 n24 c22) a2 :: L) W) ?_ ?_
       ·
        rintro a W ⟨l4946, A4947, c4948, rfl, hF, hO⟩
        have h := ko4950
        clear ko4950 ho4950
        refine TQ.use ?_ hF hO
        clear hF hO
        refine TQ.then_ ?_
        refine TC.seq ?_
        refine TC.regionAnyS (L0 := (Blk b1 [.slice A2 a0_0.length c3, .pointer (some ⟨b6, 0, none⟩), .slice A10 a0_2.length c11, .int .i64 a0_3, .int .i64 a0_4, .slice A14 a0_5.length c15, .int .i64 a0_6, .int .i64 a0_7, .int .i64 a0_8, .int .i64 a0_9] 58 :: Blk b25 [.int .i64 a1.f0, .int .i64 a1.f1, .int .i64 a1.f2, .int .i64 a1.f3, .int .i64 a1.f4, .slice A17 a1.f5.length c18] 37 :: Blk b6 [.slice A7 a0_1_0.length c8, .int .i64 a0_1_1, .int .i64 a0_1_2] 89 :: Row (Kd.int .i64) 3 (.slice A21 n24 c22) a2 :: L)) [10, 11, 12, 13, 14] [0, 1, 2, 3, 4, 5, 6, 7, 8, 9] mixed (by kernel_rfl) ?_
        refine TA.take 0 rfl (by kernel_rfl) rfl (PQ.then_ (PQ.inB (PQ.then_ PQ.body))) rfl (Val.move rfl) (fun W hO => hO.selT (Ls := [Blk b1 [.slice A2 a0_0.length c3, .pointer (some ⟨b6, 0, none⟩), .slice A10 a0_2.length c11, .int .i64 a0_3, .int .i64 a0_4, .slice A14 a0_5.length c15, .int .i64 a0_6, .int .i64 a0_7, .int .i64 a0_8, .int .i64 a0_9] 58, Blk b25 [.int .i64 a1.f0, .int .i64 a1.f1, .int .i64 a1.f2, .int .i64 a1.f3, .int .i64 a1.f4, .slice A17 a1.f5.length c18] 37, Blk b6 [.slice A7 a0_1_0.length c8, .int .i64 a0_1_1, .int .i64 a0_1_2] 89, Row (Kd.int .i64) 3 (.slice A21 n24 c22) a2]) [0, 1, 2, 6] 7 rfl rfl rfl) ?_
        refine TA.take 1 rfl (by kernel_rfl) rfl (PQ.then_ (PQ.inB (PQ.then_ PQ.body))) rfl (Val.move rfl) (fun W hO => hO.selT (Ls := [Blk b1 [.slice A2 a0_0.length c3, .pointer (some ⟨b6, 0, none⟩), .slice A10 a0_2.length c11, .int .i64 a0_3, .int .i64 a0_4, .slice A14 a0_5.length c15, .int .i64 a0_6, .int .i64 a0_7, .int .i64 a0_8, .int .i64 a0_9] 58, Blk b25 [.int .i64 a1.f0, .int .i64 a1.f1, .int .i64 a1.f2, .int .i64 a1.f3, .int .i64 a1.f4, .slice A17 a1.f5.length c18] 37, Blk b6 [.slice A7 a0_1_0.length c8, .int .i64 a0_1_1, .int .i64 a0_1_2] 89, Row (Kd.int .i64) 3 (.slice A21 n24 c22) a2]) [0, 1, 2, 6] 7 rfl rfl rfl) ?_
        refine TA.take 2 rfl (by kernel_rfl) rfl (PQ.then_ (PQ.inB (PQ.then_ PQ.body))) rfl (Val.nilCheck rfl) (fun W hO => hO.selT (Ls := [Blk b1 [.slice A2 a0_0.length c3, .pointer (some ⟨b6, 0, none⟩), .slice A10 a0_2.length c11, .int .i64 a0_3, .int .i64 a0_4, .slice A14 a0_5.length c15, .int .i64 a0_6, .int .i64 a0_7, .int .i64 a0_8, .int .i64 a0_9] 58, Blk b25 [.int .i64 a1.f0, .int .i64 a1.f1, .int .i64 a1.f2, .int .i64 a1.f3, .int .i64 a1.f4, .slice A17 a1.f5.length c18] 37, Blk b6 [.slice A7 a0_1_0.length c8, .int .i64 a0_1_1, .int .i64 a0_1_2] 89, Row (Kd.int .i64) 3 (.slice A21 n24 c22) a2]) [0, 1, 2, 6] 7 rfl rfl rfl) ?_
        refine TA.take 3 rfl (by kernel_rfl) rfl (PQ.then_ (PQ.inB (PQ.then_ PQ.body))) rfl (Val.fieldAddrB Try.underlying58 rfl fsz22 rfl rfl rfl) (fun W hO => hO.selT (Ls := [Blk b1 [.slice A2 a0_0.length c3, .pointer (some ⟨b6, 0, none⟩), .slice A10 a0_2.length c11, .int .i64 a0_3, .int .i64 a0_4, .slice A14 a0_5.length c15, .int .i64 a0_6, .int .i64 a0_7, .int .i64 a0_8, .int .i64 a0_9] 58, Blk b25 [.int .i64 a1.f0, .int .i64 a1.f1, .int .i64 a1.f2, .int .i64 a1.f3, .int .i64 a1.f4, .slice A17 a1.f5.length c18] 37, Blk b6 [.slice A7 a0_1_0.length c8, .int .i64 a0_1_1, .int .i64 a0_1_2] 89, Row (Kd.int .i64) 3 (.slice A21 n24 c22) a2]) [0, 1, 2, 6] 7 rfl rfl rfl) ?_
        refine TA.take 4 rfl (by kernel_rfl) rfl (PQ.then_ (PQ.inB (PQ.then_ PQ.body))) rfl (Val.loadB 0 agg22 rfl rfl rfl) (fun W hO => hO.selT (Ls := [Blk b1 [.slice A2 a0_0.length c3, .pointer (some ⟨b6, 0, none⟩), .slice A10 a0_2.length c11, .int .i64 a0_3, .int .i64 a0_4, .slice A14 a0_5.length c15, .int .i64 a0_6, .int .i64 a0_7, .int .i64 a0_8, .int .i64 a0_9] 58, Blk b25 [.int .i64 a1.f0, .int .i64 a1.f1, .int .i64 a1.f2, .int .i64 a1.f3, .int .i64 a1.f4, .slice A17 a1.f5.length c18] 37, Blk b6 [.slice A7 a0_1_0.length c8, .int .i64 a0_1_1, .int .i64 a0_1_2] 89, Row (Kd.int .i64) 3 (.slice A21 n24 c22) a2]) [0, 1, 2, 6] 7 rfl rfl rfl) ?_
        refine TA.take 5 rfl (by kernel_rfl) rfl (PQ.then_ (PQ.inB (PQ.then_ PQ.body))) rfl (Val.fieldAddrB Try.underlying37 rfl fsz3 rfl rfl rfl) (fun W hO => hO.selT (Ls := [Blk b1 [.slice A2 a0_0.length c3, .pointer (some ⟨b6, 0, none⟩), .slice A10 a0_2.length c11, .int .i64 a0_3, .int .i64 a0_4, .slice A14 a0_5.length c15, .int .i64 a0_6, .int .i64 a0_7, .int .i64 a0_8, .int .i64 a0_9] 58, Blk b25 [.int .i64 a1.f0, .int .i64 a1.f1, .int .i64 a1.f2, .int .i64 a1.f3, .int .i64 a1.f4, .slice A17 a1.f5.length c18] 37, Blk b6 [.slice A7 a0_1_0.length c8, .int .i64 a0_1_1, .int .i64 a0_1_2] 89, Row (Kd.int .i64) 3 (.slice A21 n24 c22) a2]) [0, 1, 2, 6] 7 rfl rfl rfl) ?_
        refine TA.take 6 rfl (by kernel_rfl) rfl (PQ.then_ (PQ.inB (PQ.then_ PQ.body))) rfl (Val.loadB 1 agg3 rfl rfl rfl) (fun W hO => hO.selT (Ls := [Blk b1 [.slice A2 a0_0.length c3, .pointer (some ⟨b6, 0, none⟩), .slice A10 a0_2.length c11, .int .i64 a0_3, .int .i64 a0_4, .slice A14 a0_5.length c15, .int .i64 a0_6, .int .i64 a0_7, .int .i64 a0_8, .int .i64 a0_9] 58, Blk b25 [.int .i64 a1.f0, .int .i64 a1.f1, .int .i64 a1.f2, .int .i64 a1.f3, .int .i64 a1.f4, .slice A17 a1.f5.length c18] 37, Blk b6 [.slice A7 a0_1_0.length c8, .int .i64 a0_1_1, .int .i64 a0_1_2] 89, Row (Kd.int .i64) 3 (.slice A21 n24 c22) a2]) [0, 1, 2, 6] 7 rfl rfl rfl) ?_
        obtain ⟨y5041, hx5042, h⟩ := bind_no h
        obtain ⟨ad5043, cs5049, hA5044, hi5045, hj5046, hcl5047, hK5048⟩ := Rd.at hr4 hx5042
        obtain ⟨A5050, c5051, rfl, hr5052, hl5053⟩ := k45_openR hK5048
        refine TA.take 7 rfl (by kernel_rfl) rfl (PQ.then_ (PQ.inB (PQ.then_ PQ.body))) rfl (Val.indexAddr Try.underlying22 fsz45 rfl hA5044 rfl hi5045 hj5046) (fun W hO => hO.selT (Ls := [Blk b1 [.slice A2 a0_0.length c3, .pointer (some ⟨b6, 0, none⟩), .slice A10 a0_2.length c11, .int .i64 a0_3, .int .i64 a0_4, .slice A14 a0_5.length c15, .int .i64 a0_6, .int .i64 a0_7, .int .i64 a0_8, .int .i64 a0_9] 58, Blk b25 [.int .i64 a1.f0, .int .i64 a1.f1, .int .i64 a1.f2, .int .i64 a1.f3, .int .i64 a1.f4, .slice A17 a1.f5.length c18] 37, Blk b6 [.slice A7 a0_1_0.length c8, .int .i64 a0_1_1, .int .i64 a0_1_2] 89, Row (Kd.int .i64) 3 (.slice A21 n24 c22) a2]) [0, 1, 2, 6] 7 rfl rfl rfl) ?_
        refine TA.take 8 rfl (by kernel_rfl) rfl (PQ.then_ (PQ.inB (PQ.then_ PQ.body))) rfl (Val.loadsS (cs := [.int .i64 y5041.f0, .slice A5050 y5041.f1.length c5051]) agg45 fsz45 rfl rfl (Cl.sub (off := 0) (n := 2) hcl5047 rfl)) (fun W hO => hO.selT (Ls := [Blk b1 [.slice A2 a0_0.length c3, .pointer (some ⟨b6, 0, none⟩), .slice A10 a0_2.length c11, .int .i64 a0_3, .int .i64 a0_4, .slice A14 a0_5.length c15, .int .i64 a0_6, .int .i64 a0_7, .int .i64 a0_8, .int .i64 a0_9] 58, Blk b25 [.int .i64 a1.f0, .int .i64 a1.f1, .int .i64 a1.f2, .int .i64 a1.f3, .int .i64 a1.f4, .slice A17 a1.f5.length c18] 37, Blk b6 [.slice A7 a0_1_0.length c8, .int .i64 a0_1_1, .int .i64 a0_1_2] 89, Row (Kd.int .i64) 3 (.slice A21 n24 c22) a2]) [0, 1, 2, 6] 7 rfl rfl rfl) ?_
        refine TA.take 9 rfl (by kernel_rfl) rfl (PQ.then_ (PQ.inB (PQ.then_ PQ.body))) rfl (Val.move rfl) (fun W hO => hO.selT (Ls := [Blk b1 [.slice A2 a0_0.length c3, .pointer (some ⟨b6, 0, none⟩), .slice A10 a0_2.length c11, .int .i64 a0_3, .int .i64 a0_4, .slice A14 a0_5.length c15, .int .i64 a0_6, .int .i64 a0_7, .int .i64 a0_8, .int .i64 a0_9] 58, Blk b25 [.int .i64 a1.f0, .int .i64 a1.f1, .int .i64 a1.f2, .int .i64 a1.f3, .int .i64 a1.f4, .slice A17 a1.f5.length c18] 37, Blk b6 [.slice A7 a0_1_0.length c8, .int .i64 a0_1_1, .int .i64 a0_1_2] 89, Row (Kd.int .i64) 3 (.slice A21 n24 c22) a2]) [0, 1, 2, 6] 7 rfl rfl rfl) ?_
        refine TK.sel (Ls := [Blk b1 [.slice A2 a0_0.length c3, .pointer (some ⟨b6, 0, none⟩), .slice A10 a0_2.length c11, .int .i64 a0_3, .int .i64 a0_4, .slice A14 a0_5.length c15, .int .i64 a0_6, .int .i64 a0_7, .int .i64 a0_8, .int .i64 a0_9] 58, Blk b6 [.slice A7 a0_1_0.length c8, .int .i64 a0_1_1, .int .i64 a0_1_2] 89, Row (Kd.int .i64) 3 (.slice A7 a0_1_0.length c8) a0_1_0, Row (Kd.int .i64) 3 (.slice A14 a0_5.length c15) a0_5, Row (Kd.int .i64) 3 (.slice A4947 l4946.length c4948) l4946, Blk b25 [.int .i64 a1.f0, .int .i64 a1.f1, .int .i64 a1.f2, .int .i64 a1.f3, .int .i64 a1.f4, .slice A17 a1.f5.length c18] 37, Row (Kd.int .i64) 3 (.slice A21 n24 c22) a2]) [0, 2, 5, 4, 3, 1, 6] 7 rfl rfl rfl ?_
        obtain ⟨y5054, hy5055, h⟩ := bind_no h
        refine TA.eff 10 rfl (by kernel_rfl) rfl (TL.callV (Lin := [Blk b1 [.slice A2 a0_0.length c3, .pointer (some ⟨b6, 0, none⟩), .slice A10 a0_2.length c11, .int .i64 a0_3, .int .i64 a0_4, .slice A14 a0_5.length c15, .int .i64 a0_6, .int .i64 a0_7, .int .i64 a0_8, .int .i64 a0_9] 58, Blk b6 [.slice A7 a0_1_0.length c8, .int .i64 a0_1_1, .int .i64 a0_1_2] 89, Row (Kd.int .i64) 3 (.slice A7 a0_1_0.length c8) a0_1_0, Row (Kd.int .i64) 3 (.slice A14 a0_5.length c15) a0_5, Row (Kd.int .i64) 3 (.slice A4947 l4946.length c4948) l4946]) (args := [.pointer (some ⟨b1, 0, none⟩), .agg #[.int .i64 y5041.f0, .slice A5050 y5041.f1.length c5051], .slice A4947 l4946.length c4948]) rfl rfl rfl hbd28 rfl rfl (ih28 (a0_0 := a0_0) (a0_1_0 := a0_1_0) (a0_1_1 := a0_1_1) (a0_1_2 := a0_1_2) (a0_2 := a0_2) (a0_3 := a0_3) (a0_4 := a0_4) (a0_5 := a0_5) (a0_6 := a0_6) (a0_7 := a0_7) (a0_8 := a0_8) (a0_9 := a0_9) (a1 := y5041) (a2 := l4946) hr4 hl5 hr12 hl13 hr5052 hl5053 hy5055) rfl ?_)
        rintro _ _ _ _ ⟨rfl, A5056, c5057, A5059, c5060, A5063, c5064, rfl, rfl, hr5061, hl5062⟩
        refine TA.last rfl ?_
        refine TA.effs 11 [12] (by kernel_rfl) ⟨⟨_, rfl, ?_⟩, ⟨_, rfl, ?_⟩, trivial⟩
        ·
         refine TO.val rfl rfl rfl (Val.extract rfl rfl) ?_
         refine TA.last rfl ?_
         refine TA.eff 12 rfl (by kernel_rfl) rfl (TO.val rfl rfl rfl (Val.extract rfl rfl) ?_)
         refine TA.last rfl ?_
         refine TA.eff 13 rfl (by kernel_rfl) rfl (TO.val rfl rfl rfl (Val.assign rfl) ?_)
         refine TA.last rfl ?_
         refine TA.eff 14 rfl (by kernel_rfl) rfl (TO.val rfl rfl rfl (Val.assign rfl) ?_)
         refine TA.last rfl ?_
         refine TA.done (by kernel_rfl) ?_
         refine TQ.then_ ?_
         refine TC.ret ?_
         refine TQ.inBR ?_
         refine TQ.thenR ?_
         obtain rfl := Option.some.inj h
         exact TQ.fin (.inl rfl) rfl Try.results82 (.tmp rfl (.tmp rfl .nil)) rfl (FRel.mk (Ls := [Blk b1 [.slice A2 a0_0.length c3, .pointer (some ⟨b6, 0, none⟩), .slice A5059 y5054.2.2.2.2.1.length c5060, .int .i64 y5054.2.2.2.2.2.1, .int .i64 y5054.2.2.2.2.2.2.1, .slice A5063 y5054.2.2.2.2.2.2.2.1.length c5064, .int .i64 a0_6, .int .i64 y5054.2.2.2.2.2.2.2.2.1, .int .i64 y5054.2.2.2.2.2.2.2.2.2.1, .int .i64 y5054.2.2.2.2.2.2.2.2.2.2] 58, Blk b6 [.slice A5056 y5054.2.2.1.length c5057, .int .i64 y5054.2.2.2.1, .int .i64 a0_1_2] 89, Row (Kd.int .i64) 3 (.slice A5056 y5054.2.2.1.length c5057) y5054.2.2.1, Row (Kd.int .i64) 3 (.slice A5063 y5054.2.2.2.2.2.2.2.1.length c5064) y5054.2.2.2.2.2.2.2.1, Row (Kd.int .i64) 3 (.slice A21 n24 c22) a2]) [0, 1, 2, 3, 6] 7 (Gd.le.refl _) rfl rfl rfl ⟨rfl, A5056, c5057, A5059, c5060, A5063, c5064, rfl, rfl, hr5061, hl5062⟩)
        ·
         refine TO.val rfl rfl rfl (Val.extract rfl rfl) ?_
         refine TA.last rfl ?_
         refine TA.eff 11 rfl (by kernel_rfl) rfl (TO.val rfl rfl rfl (Val.extract rfl rfl) ?_)
         refine TA.last rfl ?_
         refine TA.eff 13 rfl (by kernel_rfl) rfl (TO.val rfl rfl rfl (Val.assign rfl) ?_)
         refine TA.last rfl ?_
         refine TA.eff 14 rfl (by kernel_rfl) rfl (TO.val rfl rfl rfl (Val.assign rfl) ?_)
         refine TA.last rfl ?_
         refine TA.done (by kernel_rfl) ?_
         refine TQ.then_ ?_
         refine TC.ret ?_
         refine TQ.inBR ?_
         refine TQ.thenR ?_
         obtain rfl := Option.some.inj h
         exact TQ.fin (.inl rfl) rfl Try.results82 (.tmp rfl (.tmp rfl .nil)) rfl (FRel.mk (Ls := [Blk b1 [.slice A2 a0_0.length c3, .pointer (some ⟨b6, 0, none⟩), .slice A5059 y5054.2.2.2.2.1.length c5060, .int .i64 y5054.2.2.2.2.2.1, .int .i64 y5054.2.2.2.2.2.2.1, .slice A5063 y5054.2.2.2.2.2.2.2.1.length c5064, .int .i64 a0_6, .int .i64 y5054.2.2.2.2.2.2.2.2.1, .int .i64 y5054.2.2.2.2.2.2.2.2.2.1, .int .i64 y5054.2.2.2.2.2.2.2.2.2.2] 58, Blk b6 [.slice A5056 y5054.2.2.1.length c5057, .int .i64 y5054.2.2.2.1, .int .i64 a0_1_2] 89, Row (Kd.int .i64) 3 (.slice A5056 y5054.2.2.1.length c5057) y5054.2.2.1, Row (Kd.int .i64) 3 (.slice A5063 y5054.2.2.2.2.2.2.2.1.length c5064) y5054.2.2.2.2.2.2.2.1, Row (Kd.int .i64) 3 (.slice A21 n24 c22) a2]) [0, 1, 2, 3, 6] 7 (Gd.le.refl _) rfl rfl rfl ⟨rfl, A5056, c5057, A5059, c5060, A5063, c5064, rfl, rfl, hr5061, hl5062⟩)
       ·
        refine TC.block ?_
        intro a W hF hO
        have hS : ∃ (l4876 : (List Int)) (x4881 : Int) (A4877 : Option Addr) (c4878 : Nat), trace_runner_value.l0 a1 a2 (a1.f5.length + 1) l4876 x4881 = some o4950 ∧ l4876.length = (List.replicate (a1.f5.length : Int).toNat (0 : Int)).length ∧ Fr 106 a [(0, .pointer (some ⟨b1, 0, none⟩)), (2, .slice A21 n24 c22), (4, .pointer (some ⟨b25, 0, none⟩)), (8, .slice A4877 l4876.length c4878), (72, .slice A17 a1.f5.length c18), (73, .int .i64 (a1.f5.length : Int)), (74, .int .i64 x4881)] ∧ Own G (Blk b1 [.slice A2 a0_0.length c3, .pointer (some ⟨b6, 0, none⟩), .slice A10 a0_2.length c11, .int .i64 a0_3, .int .i64 a0_4, .slice A14 a0_5.length c15, .int .i64 a0_6, .int .i64 a0_7, .int .i64 a0_8, .int .i64 a0_9] 58 :: Blk b25 [.int .i64 a1.f0, .int .i64 a1.f1, .int .i64 a1.f2, .int .i64 a1.f3, .int .i64 a1.f4, .slice A17 a1.f5.length c18] 37 :: Blk b6 [.slice A7 a0_1_0.length c8, .int .i64 a0_1_1, .int .i64 a0_1_2] 89 :: Row (Kd.int .i64) 3 (.slice A21 n24 c22) a2 :: Row (Kd.int .i64) 3 (.slice A4877 l4876.length c4878) l4876 :: Row (Kd.int .i64) 3 (.slice A14 a0_5.length c15) a0_5 :: Row (Kd.int .i64) 3 (.slice A7 a0_1_0.length c8) a0_1_0 :: L) W := by
         exact ⟨(List.replicate (a1.f5.length : Int).toNat (0 : Int)), 0, A4671, c4672, ho4950, (by first | rfl | assumption | omega | (simp only [List.length_set]; first | rfl | assumption | omega)), hF.sub ⟨rfl, rfl, rfl, rfl, rfl, rfl, rfl, trivial⟩, hO.selT (Ls := [Blk b1 [.slice A2 a0_0.length c3, .pointer (some ⟨b6, 0, none⟩), .slice A10 a0_2.length c11, .int .i64 a0_3, .int .i64 a0_4, .slice A14 a0_5.length c15, .int .i64 a0_6, .int .i64 a0_7, .int .i64 a0_8, .int .i64 a0_9] 58, Blk b25 [.int .i64 a1.f0, .int .i64 a1.f1, .int .i64 a1.f2, .int .i64 a1.f3, .int .i64 a1.f4, .slice A17 a1.f5.length c18] 37, Blk b6 [.slice A7 a0_1_0.length c8, .int .i64 a0_1_1, .int .i64 a0_1_2] 89, Row (Kd.int .i64) 3 (.slice A21 n24 c22) a2, Row (Kd.int .i64) 3 (.slice A4671 (List.replicate (a1.f5.length : Int).toNat (0 : Int)).length c4672) (List.replicate (a1.f5.length : Int).toNat (0 : Int)), Row (Kd.int .i64) 3 (.slice A14 a0_5.length c15) a0_5, Row (Kd.int .i64) 3 (.slice A7 a0_1_0.length c8) a0_1_0]) [2, 1, 3, 6, 0, 5, 4] 7 rfl rfl rfl⟩
        clear hF hO ho4950 ko4950
        refine TC.loop (fun n4951 a W => ∃ (l4876 : (List Int)) (x4881 : Int) (A4877 : Option Addr) (c4878 : Nat), trace_runner_value.l0 a1 a2 n4951 l4876 x4881 = some o4950 ∧ l4876.length = (List.replicate (a1.f5.length : Int).toNat (0 : Int)).length ∧ Fr 106 a [(0, .pointer (some ⟨b1, 0, none⟩)), (2, .slice A21 n24 c22), (4, .pointer (some ⟨b25, 0, none⟩)), (8, .slice A4877 l4876.length c4878), (72, .slice A17 a1.f5.length c18), (73, .int .i64 (a1.f5.length : Int)), (74, .int .i64 x4881)] ∧ Own G (Blk b1 [.slice A2 a0_0.length c3, .pointer (some ⟨b6, 0, none⟩), .slice A10 a0_2.length c11, .int .i64 a0_3, .int .i64 a0_4, .slice A14 a0_5.length c15, .int .i64 a0_6, .int .i64 a0_7, .int .i64 a0_8, .int .i64 a0_9] 58 :: Blk b25 [.int .i64 a1.f0, .int .i64 a1.f1, .int .i64 a1.f2, .int .i64 a1.f3, .int .i64 a1.f4, .slice A17 a1.f5.length c18] 37 :: Blk b6 [.slice A7 a0_1_0.length c8, .int .i64 a0_1_1, .int .i64 a0_1_2] 89 :: Row (Kd.int .i64) 3 (.slice A21 n24 c22) a2 :: Row (Kd.int .i64) 3 (.slice A4877 l4876.length c4878) l4876 :: Row (Kd.int .i64) 3 (.slice A14 a0_5.length c15) a0_5 :: Row (Kd.int .i64) 3 (.slice A7 a0_1_0.length c8) a0_1_0 :: L) W) ?_ ?_ hS
        ·
         rintro a W ⟨l4876, x4881, A4877, c4878, h, hl4880, hF, hO⟩
         exact none_no h
        ·
         clear hS
         rintro n4951 a W ⟨l4876, x4881, A4877, c4878, h, hl4880, hF, hO⟩
         rw [trace_runner_value.l0] at h
         refine TC.use ?_ hF hO
         clear hF hO
         refine TC.seq ?_
         refine TC.region ?_
         refine TL.cons (TO.val rfl rfl rfl (Val.cmp rfl rfl run_lss) ?_)
         refine TL.nil ?_
         refine TQ.then_ ?_
         refine TC.seq ?_
         refine TC.cond_p rfl h (fun hc5067 h => ?_) (fun hc5067 h => ?_)
         ·
          refine TC.skip ?_
          refine TQ.then_ ?_
          refine TC.seq ?_
          refine TC.block ?_
          refine TC.seq ?_
          refine TC.region ?_
          refine TL.cons (TO.val rfl rfl rfl (Val.move rfl) ?_)
          obtain ⟨y5099, hx5100, h⟩ := bind_no h
          obtain ⟨ad5101, cs5107, hA5102, hi5103, hj5104, hcl5105, hK5106⟩ := Rd.at hr19 hx5100
          obtain rfl := RdK.int hK5106
          refine TL.cons (TO.val rfl rfl rfl (Val.indexAddr Try.underlying23 fsz3 rfl hA5102 rfl hi5103 hj5104) ?_)
          refine TL.cons (TO.val rfl rfl rfl (Val.loadS agg3 rfl (hcl5105 0 _ rfl)) ?_)
          refine TL.cons (TO.val rfl rfl rfl (Val.assign rfl) ?_)
          refine TL.cons (TO.val rfl rfl rfl (Val.assign rfl) ?_)
          refine TL.nil ?_
          refine TQ.then_ ?_
          refine TC.region ?_
          refine TL.cons (TO.val rfl rfl rfl (Val.move rfl) ?_)
          refine TL.cons (TO.val rfl rfl rfl (Val.move rfl) ?_)
          refine TL.cons (TO.val rfl rfl rfl (Val.move rfl) ?_)
          refine TL.cons (TO.val rfl rfl rfl (Val.move rfl) ?_)
          refine TK.rowlen 3 rfl (fun hl5108 => ?_)
          refine TK.sel (Ls := [Row (Kd.int .i64) 3 (.slice A21 n24 c22) a2, Blk b1 [.slice A2 a0_0.length c3, .pointer (some ⟨b6, 0, none⟩), .slice A10 a0_2.length c11, .int .i64 a0_3, .int .i64 a0_4, .slice A14 a0_5.length c15, .int .i64 a0_6, .int .i64 a0_7, .int .i64 a0_8, .int .i64 a0_9] 58, Blk b25 [.int .i64 a1.f0, .int .i64 a1.f1, .int .i64 a1.f2, .int .i64 a1.f3, .int .i64 a1.f4, .slice A17 a1.f5.length c18] 37, Blk b6 [.slice A7 a0_1_0.length c8, .int .i64 a0_1_1, .int .i64 a0_1_2] 89, Row (Kd.int .i64) 3 (.slice A4877 l4876.length c4878) l4876, Row (Kd.int .i64) 3 (.slice A14 a0_5.length c15) a0_5, Row (Kd.int .i64) 3 (.slice A7 a0_1_0.length c8) a0_1_0]) [3, 0, 1, 2, 4, 5, 6] 7 rfl rfl rfl ?_
          refine TK.share (fun G5109 e5110 hs5111 hb5112 => ?_)
          have rd5113 : Rd G5109 (Kd.int .i64) A21 a2 := Rd.row hs5111
          have le5114 : a2.length ≤ c22 := Row.le hs5111
          obtain ⟨y5115, hx5116, h⟩ := bind_no h
          obtain ⟨ad5117, cs5123, hA5118, hi5119, hj5120, hcl5121, hK5122⟩ := Rd.at rd5113 hx5116
          obtain rfl := RdK.int hK5122
          refine TL.cons (TO.val rfl rfl rfl (Val.indexAddr Try.underlying23 fsz3 rfl hA5118 rfl hi5119 (by omega)) ?_)
          refine TL.cons (TO.val rfl rfl rfl (Val.loadS agg3 rfl (hcl5121 0 _ rfl)) ?_)
          obtain ⟨y5124, hy5125, h⟩ := bind_no h
          refine TK.opened 3 rfl hy5125 (fun b5126 hA5127 hi5128 hj5129 => ?_)
          refine TL.cons (TO.val rfl rfl rfl (Val.indexAddrW Try.underlying23 fsz3 rfl hA5127 rfl hi5128 hj5129) ?_)
          refine TK.new (El.of (k := (Kd.int .i64)) (xv := y5115) (cs := [.int .i64 y5115]) (fun W B => rfl)) ?_
          refine TK.sel (Ls := [Row (Kd.int .i64) 3 (.slice A4877 l4876.length c4878) l4876, El (Kd.int .i64) y5115 [.int .i64 y5115], Blk b1 [.slice A2 a0_0.length c3, .pointer (some ⟨b6, 0, none⟩), .slice A10 a0_2.length c11, .int .i64 a0_3, .int .i64 a0_4, .slice A14 a0_5.length c15, .int .i64 a0_6, .int .i64 a0_7, .int .i64 a0_8, .int .i64 a0_9] 58, Blk b25 [.int .i64 a1.f0, .int .i64 a1.f1, .int .i64 a1.f2, .int .i64 a1.f3, .int .i64 a1.f4, .slice A17 a1.f5.length c18] 37, Blk b6 [.slice A7 a0_1_0.length c8, .int .i64 a0_1_1, .int .i64 a0_1_2] 89, Row (Kd.int .i64) 3 (.slice A14 a0_5.length c15) a0_5, Row (Kd.int .i64) 3 (.slice A7 a0_1_0.length c8) a0_1_0]) [4, 0, 1, 2, 3, 5, 6] 7 rfl rfl rfl ?_
          refine TL.cons (TL.storeE (Kd.int .i64) (xs := l4876) (xv := y5115) (ds := [.int .i64 y5115]) rfl fsz3 hA5127 hy5125 rfl rfl rfl rfl (Nat.le_of_ble_eq_true rfl) (wholeM rfl) ?_)
          rw [show (l4876.length : Nat) = (l4876.set x4881.toNat y5115).length from by simp only [List.length_set]]
          refine TL.nil ?_
          refine TQ.inB ?_
          refine TQ.then_ ?_
          refine TC.region ?_
          refine TL.cons (TO.val rfl rfl rfl (Val.cmp rfl rfl run_add) ?_)
          refine TL.cons (TO.val rfl rfl rfl (Val.move rfl) ?_)
          refine TL.nil ?_
          refine TQ.back hb5112 ?_
          exact fun a W hF hO => ⟨(l4876.set x4881.toNat y5115), IntKind.i64.wrap (x4881 + 1), A4877, c4878, h, (by first | rfl | assumption | omega | (simp only [List.length_set]; first | rfl | assumption | omega)), hF.sub ⟨rfl, rfl, rfl, rfl, rfl, rfl, rfl, trivial⟩, hO.selT (Ls := [Blk b1 [.slice A2 a0_0.length c3, .pointer (some ⟨b6, 0, none⟩), .slice A10 a0_2.length c11, .int .i64 a0_3, .int .i64 a0_4, .slice A14 a0_5.length c15, .int .i64 a0_6, .int .i64 a0_7, .int .i64 a0_8, .int .i64 a0_9] 58, Blk b25 [.int .i64 a1.f0, .int .i64 a1.f1, .int .i64 a1.f2, .int .i64 a1.f3, .int .i64 a1.f4, .slice A17 a1.f5.length c18] 37, Blk b6 [.slice A7 a0_1_0.length c8, .int .i64 a0_1_1, .int .i64 a0_1_2] 89, Row (Kd.int .i64) 3 (.slice A21 n24 c22) a2, Row (Kd.int .i64) 3 (.slice A4877 (l4876.set x4881.toNat y5115).length c4878) (l4876.set x4881.toNat y5115), Row (Kd.int .i64) 3 (.slice A14 a0_5.length c15) a0_5, Row (Kd.int .i64) 3 (.slice A7 a0_1_0.length c8) a0_1_0]) [2, 3, 4, 0, 1, 5, 6] 7 rfl rfl rfl⟩
         ·
          refine TC.exit ?_
          refine TQ.thenX ?_
          refine TQ.thenX ?_
          refine TQ.inBX ?_
          exact fun a W hF hO => ⟨l4876, A4877, c4878, Option.some.inj h, hF.sub ⟨rfl, rfl, rfl, trivial⟩, hO.selT (Ls := [Blk b1 [.slice A2 a0_0.length c3, .pointer (some ⟨b6, 0, none⟩), .slice A10 a0_2.length c11, .int .i64 a0_3, .int .i64 a0_4, .slice A14 a0_5.length c15, .int .i64 a0_6, .int .i64 a0_7, .int .i64 a0_8, .int .i64 a0_9] 58, Blk b25 [.int .i64 a1.f0, .int .i64 a1.f1, .int .i64 a1.f2, .int .i64 a1.f3, .int .i64 a1.f4, .slice A17 a1.f5.length c18] 37, Blk b6 [.slice A7 a0_1_0.length c8, .int .i64 a0_1_1, .int .i64 a0_1_2] 89, Row (Kd.int .i64) 3 (.slice A4877 l4876.length c4878) l4876, Row (Kd.int .i64) 3 (.slice A14 a0_5.length c15) a0_5, Row (Kd.int .i64) 3 (.slice A7 a0_1_0.length c8) a0_1_0, Row (Kd.int .i64) 3 (.slice A21 n24 c22) a2]) [0, 1, 2, 4, 5, 6, 3] 7 rfl rfl rfl⟩
      ·
       refine TC.skip ?_
       refine TQ.inB ?_
       refine TQ.then_ ?_
       refine TC.seq ?_
       refine TC.region ?_
       refine TL.cons (TO.val rfl rfl rfl (Val.move rfl) ?_)
       refine TL.cons (TO.val rfl rfl rfl (Val.loadsB 0 (cs := [.int .i64 a1.f0, .int .i64 a1.f1, .int .i64 a1.f2, .int .i64 a1.f3, .int .i64 a1.f4, .slice A17 a1.f5.length c18]) agg37 fsz37 rfl rfl rfl rfl) ?_)
       refine TL.cons (TO.val rfl rfl rfl (Val.move rfl) ?_)
       refine TK.sel (Ls := [Blk b1 [.slice A2 a0_0.length c3, .pointer (some ⟨b6, 0, none⟩), .slice A10 a0_2.length c11, .int .i64 a0_3, .int .i64 a0_4, .slice A14 a0_5.length c15, .int .i64 a0_6, .int .i64 a0_7, .int .i64 a0_8, .int .i64 a0_9] 58, Blk b6 [.slice A7 a0_1_0.length c8, .int .i64 a0_1_1, .int .i64 a0_1_2] 89, Row (Kd.int .i64) 3 (.slice A7 a0_1_0.length c8) a0_1_0, Row (Kd.int .i64) 3 (.slice A14 a0_5.length c15) a0_5, Row (Kd.int .i64) 3 (.slice A21 n24 c22) a2, Blk b25 [.int .i64 a1.f0, .int .i64 a1.f1, .int .i64 a1.f2, .int .i64 a1.f3, .int .i64 a1.f4, .slice A17 a1.f5.length c18] 37]) [1, 2, 3, 4, 5, 0] 6 rfl rfl rfl ?_
       obtain ⟨y5130, hy5131, h⟩ := bind_no h
       refine TL.cons (TL.callV (Lin := [Blk b1 [.slice A2 a0_0.length c3, .pointer (some ⟨b6, 0, none⟩), .slice A10 a0_2.length c11, .int .i64 a0_3, .int .i64 a0_4, .slice A14 a0_5.length c15, .int .i64 a0_6, .int .i64 a0_7, .int .i64 a0_8, .int .i64 a0_9] 58, Blk b6 [.slice A7 a0_1_0.length c8, .int .i64 a0_1_1, .int .i64 a0_1_2] 89, Row (Kd.int .i64) 3 (.slice A7 a0_1_0.length c8) a0_1_0, Row (Kd.int .i64) 3 (.slice A14 a0_5.length c15) a0_5, Row (Kd.int .i64) 3 (.slice A21 n24 c22) a2]) (args := [.pointer (some ⟨b1, 0, none⟩), .agg #[.int .i64 a1.f0, .int .i64 a1.f1, .int .i64 a1.f2, .int .i64 a1.f3, .int .i64 a1.f4, .slice A17 a1.f5.length c18], .slice A21 n24 c22]) rfl rfl rfl hbd107 rfl rfl (trace_runner_cells.calls (a0_0 := a0_0) (a0_1_0 := a0_1_0) (a0_1_1 := a0_1_1) (a0_1_2 := a0_1_2) (a0_2 := a0_2) (a0_3 := a0_3) (a0_4 := a0_4) (a0_5 := a0_5) (a0_6 := a0_6) (a0_7 := a0_7) (a0_8 := a0_8) (a0_9 := a0_9) (a1 := a1) (a2 := a2) hr4 hl5 hr12 hl13 hr19 hl20 hy5131) rfl ?_)
       rintro _ _ _ _ ⟨rfl, A5132, c5133, rfl, rfl⟩
       refine TL.cons (TO.val rfl rfl rfl (Val.extract rfl rfl) ?_)
       refine TL.cons (TO.val rfl rfl rfl (Val.extract rfl rfl) ?_)
       refine TL.cons (TO.val rfl rfl rfl (Val.assign rfl) ?_)
       refine TL.cons (TO.val rfl rfl rfl (Val.assign rfl) ?_)
       refine TL.nil ?_
       refine TQ.then_ ?_
       refine TC.ret ?_
       obtain rfl := Option.some.inj h
       exact TQ.fin (.inl rfl) rfl Try.results82 (.tmp rfl (.tmp rfl .nil)) rfl (FRel.mk (Ls := [Blk b1 [.slice A2 a0_0.length c3, .pointer (some ⟨b6, 0, none⟩), .slice A10 a0_2.length c11, .int .i64 a0_3, .int .i64 a0_4, .slice A14 a0_5.length c15, .int .i64 a0_6, .int .i64 y5130.2.2.2.2.1, .int .i64 y5130.2.2.2.2.2.1, .int .i64 y5130.2.2.2.2.2.2] 58, Blk b6 [.slice A5132 y5130.2.2.1.length c5133, .int .i64 y5130.2.2.2.1, .int .i64 a0_1_2] 89, Row (Kd.int .i64) 3 (.slice A5132 y5130.2.2.1.length c5133) y5130.2.2.1, Row (Kd.int .i64) 3 (.slice A14 a0_5.length c15) a0_5, Row (Kd.int .i64) 3 (.slice A21 n24 c22) a2]) [0, 1, 2, 3, 4] 6 (Gd.le.refl _) rfl rfl rfl ⟨rfl, A5132, c5133, A10, c11, A14, c15, rfl, rfl, hr12, hl13⟩)
def trace_runner_call.fix : Nat → ((List S45) → (List Int) → Int → Int → (List Int) → Int → Int → (List Int) → Int → Int → Int → Int → S45 → (List Int) → Option (Int × Int × (List Int) × Int × (List Int) × Int × Int × (List Int) × Int × Int × Int)) × ((List S45) → (List Int) → Int → Int → (List Int) → Int → Int → (List Int) → Int → Int → Int → Int → S42 → (List Int) → Option (Int × (List Int) × Int × (List Int) × Int × Int × (List Int) × Int × Int × Int × (List Int))) × ((List S45) → (List Int) → Int → Int → (List Int) → Int → Int → (List Int) → Int → Int → Int → Int → S37 → (List Int) → Option (Int × Int × (List Int) × Int × (List Int) × Int × Int × (List Int) × Int × Int × Int))
 | 0 => ((fun _ _ _ _ _ _ _ _ _ _ _ _ _ _ => none), (fun _ _ _ _ _ _ _ _ _ _ _ _ _ _ => none), (fun _ _ _ _ _ _ _ _ _ _ _ _ _ _ => none))
 | n + 1 => (trace_runner_call.g (trace_runner_call.fix n).1 (trace_runner_call.fix n).2.1 (trace_runner_call.fix n).2.2, trace_runner_block.g (trace_runner_call.fix n).1 (trace_runner_call.fix n).2.1 (trace_runner_call.fix n).2.2, trace_runner_value.g (trace_runner_call.fix n).1 (trace_runner_call.fix n).2.1 (trace_runner_call.fix n).2.2)
theorem trace_runner_call.fixc : ∀ k, (∀ {G : Gd} {r : (Int × Int × (List Int) × Int × (List Int) × Int × Int × (List Int) × Int × Int × Int)} {a0_0 : (List S45)} {a0_1_0 : (List Int)} {a0_1_1 : Int} {a0_1_2 : Int} {a0_2 : (List Int)} {a0_3 : Int} {a0_4 : Int} {a0_5 : (List Int)} {a0_6 : Int} {a0_7 : Int} {a0_8 : Int} {a0_9 : Int} {a1 : S45} {a2 : (List Int)} {b1 : Nat} {A2 : Option Addr} {c3 : Nat} {b6 : Nat} {A7 : Option Addr} {c8 : Nat} {A10 : Option Addr} {c11 : Nat} {A14 : Option Addr} {c15 : Nat} {A17 : Option Addr} {c18 : Nat} {A21 : Option Addr} {c22 : Nat} {n24 : Nat} (hr4 : Rd G k45 A2 a0_0) (hl5 : a0_0.length ≤ c3) (hr12 : Rd G (Kd.int .i64) A10 a0_2) (hl13 : a0_2.length ≤ c11) (hr19 : Rd G k42 A17 a1.f1) (hl20 : a1.f1.length ≤ c18), (trace_runner_call.fix k).1 a0_0 a0_1_0 a0_1_1 a0_1_2 a0_2 a0_3 a0_4 a0_5 a0_6 a0_7 a0_8 a0_9 a1 a2 = some r → Fn Try.prog 28 G [Blk b1 [.slice A2 a0_0.length c3, .pointer (some ⟨b6, 0, none⟩), .slice A10 a0_2.length c11, .int .i64 a0_3, .int .i64 a0_4, .slice A14 a0_5.length c15, .int .i64 a0_6, .int .i64 a0_7, .int .i64 a0_8, .int .i64 a0_9] 58, Blk b6 [.slice A7 a0_1_0.length c8, .int .i64 a0_1_1, .int .i64 a0_1_2] 89, Row (Kd.int .i64) 3 (.slice A7 a0_1_0.length c8) a0_1_0, Row (Kd.int .i64) 3 (.slice A14 a0_5.length c15) a0_5, Row (Kd.int .i64) 3 (.slice A21 n24 c22) a2] [.pointer (some ⟨b1, 0, none⟩), .agg #[.int .i64 a1.f0, .slice A17 a1.f1.length c18], .slice A21 n24 c22] (trace_runner_call.post G b1 A2 c3 b6 A7 c8 A10 c11 A14 c15 A17 c18 A21 c22 n24 a0_0 a0_1_0 a0_1_1 a0_1_2 a0_2 a0_3 a0_4 a0_5 a0_6 a0_7 a0_8 a0_9 a1 a2 r)) ∧ (∀ {G : Gd} {r : (Int × (List Int) × Int × (List Int) × Int × Int × (List Int) × Int × Int × Int × (List Int))} {a0_0 : (List S45)} {a0_1_0 : (List Int)} {a0_1_1 : Int} {a0_1_2 : Int} {a0_2 : (List Int)} {a0_3 : Int} {a0_4 : Int} {a0_5 : (List Int)} {a0_6 : Int} {a0_7 : Int} {a0_8 : Int} {a0_9 : Int} {a1 : S42} {a2 : (List Int)} {b1 : Nat} {A2 : Option Addr} {c3 : Nat} {b6 : Nat} {A7 : Option Addr} {c8 : Nat} {A10 : Option Addr} {c11 : Nat} {A14 : Option Addr} {c15 : Nat} {A17 : Option Addr} {c18 : Nat} {A21 : Option Addr} {c22 : Nat} {n24 : Nat} (hr4 : Rd G k45 A2 a0_0) (hl5 : a0_0.length ≤ c3) (hr12 : Rd G (Kd.int .i64) A10 a0_2) (hl13 : a0_2.length ≤ c11) (hr19 : Rd G k37 A17 a1.f0) (hl20 : a1.f0.length ≤ c18), (trace_runner_call.fix k).2.1 a0_0 a0_1_0 a0_1_1 a0_1_2 a0_2 a0_3 a0_4 a0_5 a0_6 a0_7 a0_8 a0_9 a1 a2 = some r → Fn Try.prog 58 G [Blk b1 [.slice A2 a0_0.length c3, .pointer (some ⟨b6, 0, none⟩), .slice A10 a0_2.length c11, .int .i64 a0_3, .int .i64 a0_4, .slice A14 a0_5.length c15, .int .i64 a0_6, .int .i64 a0_7, .int .i64 a0_8, .int .i64 a0_9] 58, Blk b6 [.slice A7 a0_1_0.length c8, .int .i64 a0_1_1, .int .i64 a0_1_2] 89, Row (Kd.int .i64) 3 (.slice A7 a0_1_0.length c8) a0_1_0, Row (Kd.int .i64) 3 (.slice A14 a0_5.length c15) a0_5, Row (Kd.int .i64) 3 (.slice A21 n24 c22) a2] [.pointer (some ⟨b1, 0, none⟩), .agg #[.slice A17 a1.f0.length c18, .int .i64 a1.f1.f0, .int .i64 a1.f1.f1, .int .i64 a1.f1.f2, .int .i64 a1.f1.f3], .slice A21 n24 c22] (trace_runner_block.post G b1 A2 c3 b6 A7 c8 A10 c11 A14 c15 A17 c18 A21 c22 n24 a0_0 a0_1_0 a0_1_1 a0_1_2 a0_2 a0_3 a0_4 a0_5 a0_6 a0_7 a0_8 a0_9 a1 a2 r)) ∧ (∀ {G : Gd} {r : (Int × Int × (List Int) × Int × (List Int) × Int × Int × (List Int) × Int × Int × Int)} {a0_0 : (List S45)} {a0_1_0 : (List Int)} {a0_1_1 : Int} {a0_1_2 : Int} {a0_2 : (List Int)} {a0_3 : Int} {a0_4 : Int} {a0_5 : (List Int)} {a0_6 : Int} {a0_7 : Int} {a0_8 : Int} {a0_9 : Int} {a1 : S37} {a2 : (List Int)} {b1 : Nat} {A2 : Option Addr} {c3 : Nat} {b6 : Nat} {A7 : Option Addr} {c8 : Nat} {A10 : Option Addr} {c11 : Nat} {A14 : Option Addr} {c15 : Nat} {A17 : Option Addr} {c18 : Nat} {A21 : Option Addr} {c22 : Nat} {n24 : Nat} (hr4 : Rd G k45 A2 a0_0) (hl5 : a0_0.length ≤ c3) (hr12 : Rd G (Kd.int .i64) A10 a0_2) (hl13 : a0_2.length ≤ c11) (hr19 : Rd G (Kd.int .i64) A17 a1.f5) (hl20 : a1.f5.length ≤ c18), (trace_runner_call.fix k).2.2 a0_0 a0_1_0 a0_1_1 a0_1_2 a0_2 a0_3 a0_4 a0_5 a0_6 a0_7 a0_8 a0_9 a1 a2 = some r → Fn Try.prog 82 G [Blk b1 [.slice A2 a0_0.length c3, .pointer (some ⟨b6, 0, none⟩), .slice A10 a0_2.length c11, .int .i64 a0_3, .int .i64 a0_4, .slice A14 a0_5.length c15, .int .i64 a0_6, .int .i64 a0_7, .int .i64 a0_8, .int .i64 a0_9] 58, Blk b6 [.slice A7 a0_1_0.length c8, .int .i64 a0_1_1, .int .i64 a0_1_2] 89, Row (Kd.int .i64) 3 (.slice A7 a0_1_0.length c8) a0_1_0, Row (Kd.int .i64) 3 (.slice A14 a0_5.length c15) a0_5, Row (Kd.int .i64) 3 (.slice A21 n24 c22) a2] [.pointer (some ⟨b1, 0, none⟩), .agg #[.int .i64 a1.f0, .int .i64 a1.f1, .int .i64 a1.f2, .int .i64 a1.f3, .int .i64 a1.f4, .slice A17 a1.f5.length c18], .slice A21 n24 c22] (trace_runner_value.post G b1 A2 c3 b6 A7 c8 A10 c11 A14 c15 A17 c18 A21 c22 n24 a0_0 a0_1_0 a0_1_1 a0_1_2 a0_2 a0_3 a0_4 a0_5 a0_6 a0_7 a0_8 a0_9 a1 a2 r)) ∧ True
 | 0 => ⟨(by intros; contradiction), (by intros; contradiction), (by intros; contradiction), trivial⟩
 | k + 1 => by
  have ih := trace_runner_call.fixc k
  exact ⟨(by
   intro G r a0_0 a0_1_0 a0_1_1 a0_1_2 a0_2 a0_3 a0_4 a0_5 a0_6 a0_7 a0_8 a0_9 a1 a2 b1 A2 c3 b6 A7 c8 A10 c11 A14 c15 A17 c18 A21 c22 n24 hr4 hl5 hr12 hl13 hr19 hl20 h
   exact trace_runner_call.step _ _ _ ih.1 ih.2.1 ih.2.2.1 hr4 hl5 hr12 hl13 hr19 hl20 h), (by
   intro G r a0_0 a0_1_0 a0_1_1 a0_1_2 a0_2 a0_3 a0_4 a0_5 a0_6 a0_7 a0_8 a0_9 a1 a2 b1 A2 c3 b6 A7 c8 A10 c11 A14 c15 A17 c18 A21 c22 n24 hr4 hl5 hr12 hl13 hr19 hl20 h
   exact trace_runner_block.step _ _ _ ih.1 ih.2.1 ih.2.2.1 hr4 hl5 hr12 hl13 hr19 hl20 h), (by
   intro G r a0_0 a0_1_0 a0_1_1 a0_1_2 a0_2 a0_3 a0_4 a0_5 a0_6 a0_7 a0_8 a0_9 a1 a2 b1 A2 c3 b6 A7 c8 A10 c11 A14 c15 A17 c18 A21 c22 n24 hr4 hl5 hr12 hl13 hr19 hl20 h
   exact trace_runner_value.step _ _ _ ih.1 ih.2.1 ih.2.2.1 hr4 hl5 hr12 hl13 hr19 hl20 h), trivial⟩
def trace_runner_call.f (a0_0 : (List S45)) (a0_1_0 : (List Int)) (a0_1_1 : Int) (a0_1_2 : Int) (a0_2 : (List Int)) (a0_3 : Int) (a0_4 : Int) (a0_5 : (List Int)) (a0_6 : Int) (a0_7 : Int) (a0_8 : Int) (a0_9 : Int) (a1 : S45) (a2 : (List Int)) : Option (Int × Int × (List Int) × Int × (List Int) × Int × Int × (List Int) × Int × Int × Int) := (trace_runner_call.fix 100000).1 a0_0 a0_1_0 a0_1_1 a0_1_2 a0_2 a0_3 a0_4 a0_5 a0_6 a0_7 a0_8 a0_9 a1 a2
theorem trace_runner_call.calls {G : Gd} {r : (Int × Int × (List Int) × Int × (List Int) × Int × Int × (List Int) × Int × Int × Int)} {a0_0 : (List S45)} {a0_1_0 : (List Int)} {a0_1_1 : Int} {a0_1_2 : Int} {a0_2 : (List Int)} {a0_3 : Int} {a0_4 : Int} {a0_5 : (List Int)} {a0_6 : Int} {a0_7 : Int} {a0_8 : Int} {a0_9 : Int} {a1 : S45} {a2 : (List Int)} {b1 : Nat} {A2 : Option Addr} {c3 : Nat} {b6 : Nat} {A7 : Option Addr} {c8 : Nat} {A10 : Option Addr} {c11 : Nat} {A14 : Option Addr} {c15 : Nat} {A17 : Option Addr} {c18 : Nat} {A21 : Option Addr} {c22 : Nat} {n24 : Nat} (hr4 : Rd G k45 A2 a0_0) (hl5 : a0_0.length ≤ c3) (hr12 : Rd G (Kd.int .i64) A10 a0_2) (hl13 : a0_2.length ≤ c11) (hr19 : Rd G k42 A17 a1.f1) (hl20 : a1.f1.length ≤ c18) (h : trace_runner_call.f a0_0 a0_1_0 a0_1_1 a0_1_2 a0_2 a0_3 a0_4 a0_5 a0_6 a0_7 a0_8 a0_9 a1 a2 = some r) : Fn Try.prog 28 G [Blk b1 [.slice A2 a0_0.length c3, .pointer (some ⟨b6, 0, none⟩), .slice A10 a0_2.length c11, .int .i64 a0_3, .int .i64 a0_4, .slice A14 a0_5.length c15, .int .i64 a0_6, .int .i64 a0_7, .int .i64 a0_8, .int .i64 a0_9] 58, Blk b6 [.slice A7 a0_1_0.length c8, .int .i64 a0_1_1, .int .i64 a0_1_2] 89, Row (Kd.int .i64) 3 (.slice A7 a0_1_0.length c8) a0_1_0, Row (Kd.int .i64) 3 (.slice A14 a0_5.length c15) a0_5, Row (Kd.int .i64) 3 (.slice A21 n24 c22) a2] [.pointer (some ⟨b1, 0, none⟩), .agg #[.int .i64 a1.f0, .slice A17 a1.f1.length c18], .slice A21 n24 c22] (trace_runner_call.post G b1 A2 c3 b6 A7 c8 A10 c11 A14 c15 A17 c18 A21 c22 n24 a0_0 a0_1_0 a0_1_1 a0_1_2 a0_2 a0_3 a0_4 a0_5 a0_6 a0_7 a0_8 a0_9 a1 a2 r) := (trace_runner_call.fixc 100000).1 hr4 hl5 hr12 hl13 hr19 hl20 h
def trace_runner_block.f (a0_0 : (List S45)) (a0_1_0 : (List Int)) (a0_1_1 : Int) (a0_1_2 : Int) (a0_2 : (List Int)) (a0_3 : Int) (a0_4 : Int) (a0_5 : (List Int)) (a0_6 : Int) (a0_7 : Int) (a0_8 : Int) (a0_9 : Int) (a1 : S42) (a2 : (List Int)) : Option (Int × (List Int) × Int × (List Int) × Int × Int × (List Int) × Int × Int × Int × (List Int)) := (trace_runner_call.fix 100000).2.1 a0_0 a0_1_0 a0_1_1 a0_1_2 a0_2 a0_3 a0_4 a0_5 a0_6 a0_7 a0_8 a0_9 a1 a2
theorem trace_runner_block.calls {G : Gd} {r : (Int × (List Int) × Int × (List Int) × Int × Int × (List Int) × Int × Int × Int × (List Int))} {a0_0 : (List S45)} {a0_1_0 : (List Int)} {a0_1_1 : Int} {a0_1_2 : Int} {a0_2 : (List Int)} {a0_3 : Int} {a0_4 : Int} {a0_5 : (List Int)} {a0_6 : Int} {a0_7 : Int} {a0_8 : Int} {a0_9 : Int} {a1 : S42} {a2 : (List Int)} {b1 : Nat} {A2 : Option Addr} {c3 : Nat} {b6 : Nat} {A7 : Option Addr} {c8 : Nat} {A10 : Option Addr} {c11 : Nat} {A14 : Option Addr} {c15 : Nat} {A17 : Option Addr} {c18 : Nat} {A21 : Option Addr} {c22 : Nat} {n24 : Nat} (hr4 : Rd G k45 A2 a0_0) (hl5 : a0_0.length ≤ c3) (hr12 : Rd G (Kd.int .i64) A10 a0_2) (hl13 : a0_2.length ≤ c11) (hr19 : Rd G k37 A17 a1.f0) (hl20 : a1.f0.length ≤ c18) (h : trace_runner_block.f a0_0 a0_1_0 a0_1_1 a0_1_2 a0_2 a0_3 a0_4 a0_5 a0_6 a0_7 a0_8 a0_9 a1 a2 = some r) : Fn Try.prog 58 G [Blk b1 [.slice A2 a0_0.length c3, .pointer (some ⟨b6, 0, none⟩), .slice A10 a0_2.length c11, .int .i64 a0_3, .int .i64 a0_4, .slice A14 a0_5.length c15, .int .i64 a0_6, .int .i64 a0_7, .int .i64 a0_8, .int .i64 a0_9] 58, Blk b6 [.slice A7 a0_1_0.length c8, .int .i64 a0_1_1, .int .i64 a0_1_2] 89, Row (Kd.int .i64) 3 (.slice A7 a0_1_0.length c8) a0_1_0, Row (Kd.int .i64) 3 (.slice A14 a0_5.length c15) a0_5, Row (Kd.int .i64) 3 (.slice A21 n24 c22) a2] [.pointer (some ⟨b1, 0, none⟩), .agg #[.slice A17 a1.f0.length c18, .int .i64 a1.f1.f0, .int .i64 a1.f1.f1, .int .i64 a1.f1.f2, .int .i64 a1.f1.f3], .slice A21 n24 c22] (trace_runner_block.post G b1 A2 c3 b6 A7 c8 A10 c11 A14 c15 A17 c18 A21 c22 n24 a0_0 a0_1_0 a0_1_1 a0_1_2 a0_2 a0_3 a0_4 a0_5 a0_6 a0_7 a0_8 a0_9 a1 a2 r) := (trace_runner_call.fixc 100000).2.1 hr4 hl5 hr12 hl13 hr19 hl20 h
def trace_runner_value.f (a0_0 : (List S45)) (a0_1_0 : (List Int)) (a0_1_1 : Int) (a0_1_2 : Int) (a0_2 : (List Int)) (a0_3 : Int) (a0_4 : Int) (a0_5 : (List Int)) (a0_6 : Int) (a0_7 : Int) (a0_8 : Int) (a0_9 : Int) (a1 : S37) (a2 : (List Int)) : Option (Int × Int × (List Int) × Int × (List Int) × Int × Int × (List Int) × Int × Int × Int) := (trace_runner_call.fix 100000).2.2 a0_0 a0_1_0 a0_1_1 a0_1_2 a0_2 a0_3 a0_4 a0_5 a0_6 a0_7 a0_8 a0_9 a1 a2
theorem trace_runner_value.calls {G : Gd} {r : (Int × Int × (List Int) × Int × (List Int) × Int × Int × (List Int) × Int × Int × Int)} {a0_0 : (List S45)} {a0_1_0 : (List Int)} {a0_1_1 : Int} {a0_1_2 : Int} {a0_2 : (List Int)} {a0_3 : Int} {a0_4 : Int} {a0_5 : (List Int)} {a0_6 : Int} {a0_7 : Int} {a0_8 : Int} {a0_9 : Int} {a1 : S37} {a2 : (List Int)} {b1 : Nat} {A2 : Option Addr} {c3 : Nat} {b6 : Nat} {A7 : Option Addr} {c8 : Nat} {A10 : Option Addr} {c11 : Nat} {A14 : Option Addr} {c15 : Nat} {A17 : Option Addr} {c18 : Nat} {A21 : Option Addr} {c22 : Nat} {n24 : Nat} (hr4 : Rd G k45 A2 a0_0) (hl5 : a0_0.length ≤ c3) (hr12 : Rd G (Kd.int .i64) A10 a0_2) (hl13 : a0_2.length ≤ c11) (hr19 : Rd G (Kd.int .i64) A17 a1.f5) (hl20 : a1.f5.length ≤ c18) (h : trace_runner_value.f a0_0 a0_1_0 a0_1_1 a0_1_2 a0_2 a0_3 a0_4 a0_5 a0_6 a0_7 a0_8 a0_9 a1 a2 = some r) : Fn Try.prog 82 G [Blk b1 [.slice A2 a0_0.length c3, .pointer (some ⟨b6, 0, none⟩), .slice A10 a0_2.length c11, .int .i64 a0_3, .int .i64 a0_4, .slice A14 a0_5.length c15, .int .i64 a0_6, .int .i64 a0_7, .int .i64 a0_8, .int .i64 a0_9] 58, Blk b6 [.slice A7 a0_1_0.length c8, .int .i64 a0_1_1, .int .i64 a0_1_2] 89, Row (Kd.int .i64) 3 (.slice A7 a0_1_0.length c8) a0_1_0, Row (Kd.int .i64) 3 (.slice A14 a0_5.length c15) a0_5, Row (Kd.int .i64) 3 (.slice A21 n24 c22) a2] [.pointer (some ⟨b1, 0, none⟩), .agg #[.int .i64 a1.f0, .int .i64 a1.f1, .int .i64 a1.f2, .int .i64 a1.f3, .int .i64 a1.f4, .slice A17 a1.f5.length c18], .slice A21 n24 c22] (trace_runner_value.post G b1 A2 c3 b6 A7 c8 A10 c11 A14 c15 A17 c18 A21 c22 n24 a0_0 a0_1_0 a0_1_1 a0_1_2 a0_2 a0_3 a0_4 a0_5 a0_6 a0_7 a0_8 a0_9 a1 a2 r) := (trace_runner_call.fixc 100000).2.2.1 hr4 hl5 hr12 hl13 hr19 hl20 h
end Go.Proofs.Ytfmocegnpmomnaa.Sy
set_option linter.unusedVariables false
set_option linter.unusedSimpArgs false
set_option maxRecDepth 100000
set_option maxHeartbeats 4000000
namespace Go.Proofs.Ytfmocegnpmomnaa.Sy
open Go Go.RowKit Go.Proofs.YtfmocegnpmomnaaW.PrintWords 
def trace_Run.f (a0 : (List S45)) (a1 : Int) (a2 : (List Int)) (a3 : Int) : Option (S28 × Int) := jn (γ := (S28 × Int)) (fun (x30 : Bool) => (if x30 = true then some ((⟨([] : List Int), 0, 0, 0, 0⟩ : S28), 1) else (if 0 ≤ a1 ∧ a1 ≤ 17592186044416 then (code_Program.f a0).bind fun (y42 : Bool) => (if (!y42) = true then some ((⟨([] : List Int), 0, 0, 0, 0⟩ : S28), 1) else (at? a0 0).bind fun y48 => (trace_runner_call.f a0 (List.replicate a1.toNat (0 : Int)) 1 a1 a2 a3 0 ([] : List Int) 0 0 0 0 y48 ([] : List Int)).bind fun (y63 : (Int × Int × (List Int) × Int × (List Int) × Int × Int × (List Int) × Int × Int × Int)) => some ((⟨y63.2.2.2.2.2.2.2.1, y63.2.1, y63.2.2.2.2.2.2.2.2.1, y63.2.2.2.2.2.2.2.2.2.1, y63.2.2.2.2.2.2.2.2.2.2⟩ : S28), 0)) else none))) (fun (j31 : (Bool → Option (S28 × Int))) => (if a1 < 1 then j31 true else j31 (decide (1048576 < a1))))
def trace_Run.post (G : Gd)  (r : (S28 × Int)) (v : Value) (G' : Gd) (Lr : List Ch) : Prop := G = G' ∧ ∃ (A_1 : Option Addr) (c_1 : Nat), v = .tuple #[.agg #[.slice A_1 r.1.f0.length c_1, .int .i64 r.1.f1, .int .i64 r.1.f2, .int .i64 r.1.f3, .int .i64 r.1.f4], .int .i64 r.2] ∧ Lr = [Row (Kd.int .i64) 3 (.slice A_1 r.1.f0.length c_1) r.1.f0]
theorem trace_Run.calls {G : Gd} {r : (S28 × Int)} {a0 : (List S45)} {a1 : Int} {a2 : (List Int)} {a3 : Int} {A1 : Option Addr} {c2 : Nat} {A5 : Option Addr} {c6 : Nat} (hr3 : Rd G k45 A1 a0) (hl4 : a0.length ≤ c2) (hr7 : Rd G (Kd.int .i64) A5 a2) (hl8 : a2.length ≤ c6) (h : trace_Run.f a0 a1 a2 a3 = some r) : Fn Try.prog 11 G [] [.slice A1 a0.length c2, .int .i64 a1, .slice A5 a2.length c6, .int .i64 a3] (trace_Run.post G  r) := by
 refine Fn.intro (e := [(0, .slice A1 a0.length c2), (1, .int .i64 a1), (2, .slice A5 a2.length c6), (3, .int .i64 a3)]) 48 Try.func11 rfl Try.ntmps11 rfl rfl (Nat.le_of_ble_eq_true rfl) (fun L => ?_)
 unfold trace_Run.f at h
 refine TC.seq ?_
 refine TC.region ?_
 refine TL.cons (TL.alloc (cs := [.slice none 0 0, .int .i64 0, .int .i64 0, .int .i64 0, .int .i64 0]) rfl rfl zr28 rfl (fun b9 => ?_))
 refine TL.cons (TO.val rfl rfl rfl (Val.assign rfl) ?_)
 refine TL.nil ?_
 refine TQ.then_ ?_
 refine TC.seq ?_
 refine TC.region ?_
 refine TL.cons (TO.val rfl rfl rfl (Val.move rfl) ?_)
 refine TL.cons (TO.inl (args := [.int .i64 a1]) (e' := [(0, .int .i64 a1)]) 15 rfl rfl hbd26 rfl rfl Try.func26 rfl Try.ntmps26 rfl rfl (Nat.le_of_ble_eq_true rfl) (fun a10 hf11 => ?_))
 refine TC.seq ?_
 refine TC.region ?_
 refine TL.cons (TO.val rfl rfl rfl (Val.assign rfl) ?_)
 refine TL.cons (TO.val rfl rfl rfl (Val.assign rfl) ?_)
 refine TL.nil ?_
 refine TQ.then_ ?_
 refine TC.seq ?_
 refine TC.seq ?_
 obtain ⟨j31, hj31, h⟩ := jn_no h
 refine TC.tail (fun a W => ∃ (x30 : Bool), j31 x30 = some r ∧ Fr 15 a [(0, .int .i64 a1), (9, .bool x30)] ∧ Own G (Blk b9 [.slice none 0 0, .int .i64 0, .int .i64 0, .int .i64 0, .int .i64 0] 28 :: L) W) ?_ ?_
 ·
  rintro a W ⟨x30, h, hF, hO⟩
  rw [hj31] at h
  refine TQ.use ?_ hF hO
  clear hF hO
  refine TQ.then_ ?_
  refine TC.cond_b rfl h (fun hc33 h => ?_) (fun hc33 h => ?_)
  ·
   refine TC.seq ?_
   refine TC.region ?_
   refine TL.cons (TO.val rfl rfl rfl (Val.assign rfl) ?_)
   refine TL.cons (TO.val rfl rfl rfl (Val.assign rfl) ?_)
   refine TL.nil ?_
   refine TQ.then_ ?_
   refine TC.ret ?_
   refine TQ.thenR ?_
   refine TQ.fin (v := .tuple #[.pointer none, .int .i64 1]) (.inl rfl) rfl Try.results26 (.tmp rfl (.tmp rfl .nil)) rfl (After.mk hf11 rfl ?_)
   refine TL.cons (TO.val rfl rfl rfl (Val.move rfl) ?_)
   refine TL.cons (TO.val rfl rfl rfl (Val.extract rfl rfl) ?_)
   refine TL.cons (TO.val rfl rfl rfl (Val.extract rfl rfl) ?_)
   refine TL.cons (TO.val rfl rfl rfl (Val.assign rfl) ?_)
   refine TL.cons (TO.val rfl rfl rfl (Val.assign rfl) ?_)
   refine TL.nil ?_
   refine TQ.then_ ?_
   refine TC.seq ?_
   refine TC.seq ?_
   refine TC.region ?_
   refine TL.cons (TO.val rfl rfl rfl (Val.move rfl) ?_)
   refine TL.cons (TO.val rfl rfl rfl (Val.cmp rfl rfl run_neq) ?_)
   refine TL.cons (TO.val rfl rfl rfl (Val.move rfl) ?_)
   refine TL.cons (TL.not (Wt.no rfl rfl rfl rfl) rfl ?_)
   refine TL.cons (TL.not (Wt.no rfl rfl rfl rfl) rfl ?_)
   refine TL.cons (TL.not (Wt.no rfl rfl rfl rfl) rfl ?_)
   refine TL.cons (TO.val rfl rfl rfl (Val.pickY rfl rfl rfl) ?_)
   refine TL.nil ?_
   refine TQ.then_ ?_
   refine TC.condT rfl ?_
   refine TC.seq ?_
   refine TC.region ?_
   refine TL.cons (TO.val rfl rfl rfl (Val.build (cs := [.slice none 0 0, .int .i64 0, .int .i64 0, .int .i64 0, .int .i64 0]) (is := []) (xs := []) Try.underlying28 zr28 bld28 rfl rfl rfl rfl) ?_)
   refine TL.cons (TL.store 0 (ds := [.slice none 0 0, .int .i64 0, .int .i64 0, .int .i64 0, .int .i64 0]) (cs' := [.slice none 0 0, .int .i64 0, .int .i64 0, .int .i64 0, .int .i64 0]) (L' := (Blk b9 [.slice none 0 0, .int .i64 0, .int .i64 0, .int .i64 0, .int .i64 0] 28 :: L)) rfl fsz28 rfl rfl rfl rfl rfl (Nat.le_of_ble_eq_true rfl) rfl rfl ?_)
   refine TL.cons (TO.val rfl rfl rfl (Val.assign rfl) ?_)
   refine TL.nil ?_
   refine TQ.then_ ?_
   refine TC.ret ?_
   refine TQ.thenR ?_
   refine TQ.nilRow (Kd.int .i64) 3 ?_
   obtain rfl := Option.some.inj h
   exact TQ.fin (.inl rfl) rfl Try.results11 (.cells 1 rfl rfl agg28 fsz28 (.tmp rfl .nil)) rfl (FRel.mk (Ls := [Row (Kd.int .i64) 3 (.slice none 0 0) ([] : List Int)]) [0] 2 (Gd.le.refl _) rfl rfl rfl ⟨rfl, none, 0, rfl, rfl⟩)
  ·
   refine TC.skip ?_
   refine TQ.then_ ?_
   refine TC.seq ?_
   refine TC.region ?_
   refine TL.cons (TO.val rfl rfl rfl (Val.move rfl) ?_)
   obtain ⟨ha35, h⟩ := ite_no h
   refine TL.cons (TL.make (Kd.int .i64) rfl rfl Try.underlying23 inf3 rfl (Nat.le_of_ble_eq_true rfl) (Nat.le_of_ble_eq_true rfl) rfl rfl (fun W B => rfl) ha35.1 (by have h_ := ha35.2; omega) (fun A36 c37 => ?_))
   refine TL.cons (TO.val rfl rfl rfl (Val.move rfl) ?_)
   refine TL.cons (TO.val rfl rfl rfl (Val.build (cs := [.slice A36 (List.replicate a1.toNat (0 : Int)).length c37, .int .i64 1, .int .i64 a1]) (is := [0, 1, 2]) (xs := [.tmp 11, .const (.int .i64 1), .tmp 12]) Try.underlying89 zr89 bld89 rfl rfl rfl rfl) ?_)
   refine TL.cons (TL.box (cs := [.slice A36 (List.replicate a1.toNat (0 : Int)).length c37, .int .i64 1, .int .i64 a1]) rfl rfl rfl rfl (fun b39 => ?_))
   refine TL.cons (TO.val rfl rfl rfl (Val.assign rfl) ?_)
   refine TL.cons (TO.val rfl rfl rfl (Val.assign rfl) ?_)
   refine TL.nil ?_
   refine TQ.then_ ?_
   refine TC.ret ?_
   refine TQ.fin (v := .tuple #[.pointer (some ⟨b39, 0, none⟩), .int .i64 0]) (.inl rfl) rfl Try.results26 (.tmp rfl (.tmp rfl .nil)) rfl (After.mk hf11 rfl ?_)
   refine TL.cons (TO.val rfl rfl rfl (Val.move rfl) ?_)
   refine TL.cons (TO.val rfl rfl rfl (Val.extract rfl rfl) ?_)
   refine TL.cons (TO.val rfl rfl rfl (Val.extract rfl rfl) ?_)
   refine TL.cons (TO.val rfl rfl rfl (Val.assign rfl) ?_)
   refine TL.cons (TO.val rfl rfl rfl (Val.assign rfl) ?_)
   refine TL.nil ?_
   refine TQ.then_ ?_
   refine TC.seq ?_
   refine TC.seq ?_
   refine TC.region ?_
   refine TL.cons (TO.val rfl rfl rfl (Val.move rfl) ?_)
   refine TL.cons (TO.val rfl rfl rfl (Val.cmp rfl rfl run_neq) ?_)
   refine TL.cons (TO.val rfl rfl rfl (Val.move rfl) ?_)
   refine TL.cons (TO.val (Wt.yes rfl rfl rfl rfl) rfl rfl (Val.move rfl) ?_)
   obtain ⟨y42, hy43, h⟩ := bind_no h
   refine TL.cons (TL.callV (Lin := []) (args := [.slice A1 a0.length c2]) (Wt.yes rfl rfl rfl rfl) rfl rfl hbd27 rfl rfl (code_Program.calls (a0 := a0) hr3 hl4 hy43) rfl ?_)
   rintro _ _ _ _ ⟨rfl, rfl, rfl⟩
   refine TL.cons (TO.val (Wt.yes rfl rfl rfl rfl) rfl rfl (Val.not_ rfl) ?_)
   refine TL.cons (TO.val rfl rfl rfl (Val.pickN rfl rfl rfl) ?_)
   refine TL.nil ?_
   refine TQ.then_ ?_
   refine TC.cond_b rfl h (fun hc45 h => ?_) (fun hc45 h => ?_)
   ·
    refine TC.seq ?_
    refine TC.region ?_
    refine TL.cons (TO.val rfl rfl rfl (Val.build (cs := [.slice none 0 0, .int .i64 0, .int .i64 0, .int .i64 0, .int .i64 0]) (is := []) (xs := []) Try.underlying28 zr28 bld28 rfl rfl rfl rfl) ?_)
    refine TL.cons (TL.store 2 (ds := [.slice none 0 0, .int .i64 0, .int .i64 0, .int .i64 0, .int .i64 0]) (cs' := [.slice none 0 0, .int .i64 0, .int .i64 0, .int .i64 0, .int .i64 0]) (L' := (Blk b39 [.slice A36 (List.replicate a1.toNat (0 : Int)).length c37, .int .i64 1, .int .i64 a1] 89 :: Row (Kd.int .i64) 3 (.slice A36 (List.replicate a1.toNat (0 : Int)).length c37) (List.replicate a1.toNat (0 : Int)) :: Blk b9 [.slice none 0 0, .int .i64 0, .int .i64 0, .int .i64 0, .int .i64 0] 28 :: L)) rfl fsz28 rfl rfl rfl rfl rfl (Nat.le_of_ble_eq_true rfl) rfl rfl ?_)
    refine TL.cons (TO.val rfl rfl rfl (Val.assign rfl) ?_)
    refine TL.nil ?_
    refine TQ.then_ ?_
    refine TC.ret ?_
    refine TQ.thenR ?_
    refine TQ.nilRow (Kd.int .i64) 3 ?_
    obtain rfl := Option.some.inj h
    exact TQ.fin (.inl rfl) rfl Try.results11 (.cells 3 rfl rfl agg28 fsz28 (.tmp rfl .nil)) rfl (FRel.mk (Ls := [Row (Kd.int .i64) 3 (.slice none 0 0) ([] : List Int)]) [0] 4 (Gd.le.refl _) rfl rfl rfl ⟨rfl, none, 0, rfl, rfl⟩)
   ·
    refine TC.skip ?_
    refine TQ.then_ ?_
    refine TC.seq ?_
    refine TC.region ?_
    refine TL.cons (TO.val rfl rfl rfl (Val.move rfl) ?_)
    refine TL.cons (TO.val rfl rfl rfl (Val.move rfl) ?_)
    refine TL.cons (TO.val rfl rfl rfl (Val.move rfl) ?_)
    refine TL.cons (TO.val rfl rfl rfl (Val.move rfl) ?_)
    refine TL.cons (TO.val rfl rfl rfl (Val.build (cs := [.slice A1 a0.length c2, .pointer (some ⟨b39, 0, none⟩), .slice A5 a2.length c6, .int .i64 a3, .int .i64 0, .slice none 0 0, .int .i64 0, .int .i64 0, .int .i64 0, .int .i64 0]) (is := [0, 1, 2, 3]) (xs := [.tmp 26, .tmp 27, .tmp 28, .tmp 29]) Try.underlying58 zr58 bld58 rfl rfl rfl rfl) ?_)
    refine TL.cons (TL.box (cs := [.slice A1 a0.length c2, .pointer (some ⟨b39, 0, none⟩), .slice A5 a2.length c6, .int .i64 a3, .int .i64 0, .slice none 0 0, .int .i64 0, .int .i64 0, .int .i64 0, .int .i64 0]) rfl rfl rfl rfl (fun b47 => ?_))
    refine TL.cons (TO.val rfl rfl rfl (Val.assign rfl) ?_)
    refine TL.nil ?_
    refine TQ.then_ ?_
    refine TC.seq ?_
    refine TC.region ?_
    refine TL.cons (TO.val rfl rfl rfl (Val.move rfl) ?_)
    refine TL.cons (TO.val rfl rfl rfl (Val.move rfl) ?_)
    refine TL.cons (TO.val rfl rfl rfl (Val.move rfl) ?_)
    obtain ⟨y48, hx49, h⟩ := bind_no h
    obtain ⟨ad50, cs56, hA51, hi52, hj53, hcl54, hK55⟩ := Rd.at hr3 hx49
    obtain ⟨A57, c58, rfl, hr59, hl60⟩ := k45_openR hK55
    refine TL.cons (TO.val rfl rfl rfl (Val.indexAddr Try.underlying22 fsz45 rfl hA51 rfl hi52 hj53) ?_)
    refine TL.cons (TO.val rfl rfl rfl (Val.loadsS (cs := [.int .i64 y48.f0, .slice A57 y48.f1.length c58]) agg45 fsz45 rfl rfl (Cl.sub (off := 0) (n := 2) hcl54 rfl)) ?_)
    refine TK.new (Row.nil (Kd.int .i64) 3) ?_
    refine TK.new (Row.nil (Kd.int .i64) 3) ?_
    refine TK.sel (Ls := [Blk b47 [.slice A1 a0.length c2, .pointer (some ⟨b39, 0, none⟩), .slice A5 a2.length c6, .int .i64 a3, .int .i64 0, .slice none 0 0, .int .i64 0, .int .i64 0, .int .i64 0, .int .i64 0] 58, Blk b39 [.slice A36 (List.replicate a1.toNat (0 : Int)).length c37, .int .i64 1, .int .i64 a1] 89, Row (Kd.int .i64) 3 (.slice A36 (List.replicate a1.toNat (0 : Int)).length c37) (List.replicate a1.toNat (0 : Int)), Row (Kd.int .i64) 3 (.slice none 0 0) ([] : List Int), Row (Kd.int .i64) 3 (.slice none 0 0) ([] : List Int), Blk b9 [.slice none 0 0, .int .i64 0, .int .i64 0, .int .i64 0, .int .i64 0] 28]) [2, 3, 4, 1, 0, 5] 6 rfl rfl rfl ?_
    obtain ⟨y63, hy64, h⟩ := bind_no h
    refine TL.cons (TL.callV (Lin := [Blk b47 [.slice A1 a0.length c2, .pointer (some ⟨b39, 0, none⟩), .slice A5 a2.length c6, .int .i64 a3, .int .i64 0, .slice none 0 0, .int .i64 0, .int .i64 0, .int .i64 0, .int .i64 0] 58, Blk b39 [.slice A36 (List.replicate a1.toNat (0 : Int)).length c37, .int .i64 1, .int .i64 a1] 89, Row (Kd.int .i64) 3 (.slice A36 (List.replicate a1.toNat (0 : Int)).length c37) (List.replicate a1.toNat (0 : Int)), Row (Kd.int .i64) 3 (.slice none 0 0) ([] : List Int), Row (Kd.int .i64) 3 (.slice none 0 0) ([] : List Int)]) (args := [.pointer (some ⟨b47, 0, none⟩), .agg #[.int .i64 y48.f0, .slice A57 y48.f1.length c58], .slice none 0 0]) rfl rfl rfl hbd28 rfl rfl (trace_runner_call.calls (a0_0 := a0) (a0_1_0 := (List.replicate a1.toNat (0 : Int))) (a0_1_1 := 1) (a0_1_2 := a1) (a0_2 := a2) (a0_3 := a3) (a0_4 := 0) (a0_5 := ([] : List Int)) (a0_6 := 0) (a0_7 := 0) (a0_8 := 0) (a0_9 := 0) (a1 := y48) (a2 := ([] : List Int)) hr3 hl4 hr7 hl8 hr59 hl60 hy64) rfl ?_)
    rintro _ _ _ _ ⟨rfl, A65, c66, A68, c69, A72, c73, rfl, rfl, hr70, hl71⟩
    refine TL.cons (TO.val rfl rfl rfl (Val.move rfl) ?_)
    refine TL.cons (TO.val rfl rfl rfl (Val.extract rfl rfl) ?_)
    refine TL.cons (TO.val rfl rfl rfl (Val.extract rfl rfl) ?_)
    refine TL.cons (TO.val rfl rfl rfl (Val.nilCheck rfl) ?_)
    refine TL.cons (TO.val rfl rfl rfl (Val.fieldAddrB Try.underlying58 rfl fsz28 rfl rfl rfl) ?_)
    refine TL.cons (TO.val rfl rfl rfl (Val.fieldAddrB Try.underlying28 rfl fsz26 rfl rfl rfl) ?_)
    refine TL.cons (TL.store 0 (ds := [.int .i64 y63.2.1]) (cs' := [.slice A1 a0.length c2, .pointer (some ⟨b39, 0, none⟩), .slice A68 y63.2.2.2.2.1.length c69, .int .i64 y63.2.2.2.2.2.1, .int .i64 y63.2.2.2.2.2.2.1, .slice A72 y63.2.2.2.2.2.2.2.1.length c73, .int .i64 y63.2.1, .int .i64 y63.2.2.2.2.2.2.2.2.1, .int .i64 y63.2.2.2.2.2.2.2.2.2.1, .int .i64 y63.2.2.2.2.2.2.2.2.2.2]) (L' := (Blk b47 [.slice A1 a0.length c2, .pointer (some ⟨b39, 0, none⟩), .slice A68 y63.2.2.2.2.1.length c69, .int .i64 y63.2.2.2.2.2.1, .int .i64 y63.2.2.2.2.2.2.1, .slice A72 y63.2.2.2.2.2.2.2.1.length c73, .int .i64 y63.2.1, .int .i64 y63.2.2.2.2.2.2.2.2.1, .int .i64 y63.2.2.2.2.2.2.2.2.2.1, .int .i64 y63.2.2.2.2.2.2.2.2.2.2] 58 :: Blk b39 [.slice A65 y63.2.2.1.length c66, .int .i64 y63.2.2.2.1, .int .i64 a1] 89 :: Row (Kd.int .i64) 3 (.slice A65 y63.2.2.1.length c66) y63.2.2.1 :: Row (Kd.int .i64) 3 (.slice A72 y63.2.2.2.2.2.2.2.1.length c73) y63.2.2.2.2.2.2.2.1 :: Row (Kd.int .i64) 3 (.slice none 0 0) ([] : List Int) :: Blk b9 [.slice none 0 0, .int .i64 0, .int .i64 0, .int .i64 0, .int .i64 0] 28 :: L)) rfl fsz26 rfl rfl rfl rfl rfl (Nat.le_of_ble_eq_true rfl) rfl rfl ?_)
    refine TL.nil ?_
    refine TQ.then_ ?_
    refine TC.seq ?_
    refine TC.region ?_
    refine TL.cons (TO.val rfl rfl rfl (Val.move rfl) ?_)
    refine TL.cons (TO.val rfl rfl rfl (Val.nilCheck rfl) ?_)
    refine TL.cons (TO.val rfl rfl rfl (Val.fieldAddrB Try.underlying58 rfl fsz28 rfl rfl rfl) ?_)
    refine TL.cons (TO.val rfl rfl rfl (Val.loadsB 0 (cs := [.slice A72 y63.2.2.2.2.2.2.2.1.length c73, .int .i64 y63.2.1, .int .i64 y63.2.2.2.2.2.2.2.2.1, .int .i64 y63.2.2.2.2.2.2.2.2.2.1, .int .i64 y63.2.2.2.2.2.2.2.2.2.2]) agg28 fsz28 rfl rfl rfl rfl) ?_)
    refine TL.cons (TL.store 5 (ds := [.slice A72 y63.2.2.2.2.2.2.2.1.length c73, .int .i64 y63.2.1, .int .i64 y63.2.2.2.2.2.2.2.2.1, .int .i64 y63.2.2.2.2.2.2.2.2.2.1, .int .i64 y63.2.2.2.2.2.2.2.2.2.2]) (cs' := [.slice A72 y63.2.2.2.2.2.2.2.1.length c73, .int .i64 y63.2.1, .int .i64 y63.2.2.2.2.2.2.2.2.1, .int .i64 y63.2.2.2.2.2.2.2.2.2.1, .int .i64 y63.2.2.2.2.2.2.2.2.2.2]) (L' := (Blk b47 [.slice A1 a0.length c2, .pointer (some ⟨b39, 0, none⟩), .slice A68 y63.2.2.2.2.1.length c69, .int .i64 y63.2.2.2.2.2.1, .int .i64 y63.2.2.2.2.2.2.1, .slice A72 y63.2.2.2.2.2.2.2.1.length c73, .int .i64 y63.2.1, .int .i64 y63.2.2.2.2.2.2.2.2.1, .int .i64 y63.2.2.2.2.2.2.2.2.2.1, .int .i64 y63.2.2.2.2.2.2.2.2.2.2] 58 :: Blk b39 [.slice A65 y63.2.2.1.length c66, .int .i64 y63.2.2.2.1, .int .i64 a1] 89 :: Row (Kd.int .i64) 3 (.slice A65 y63.2.2.1.length c66) y63.2.2.1 :: Row (Kd.int .i64) 3 (.slice A72 y63.2.2.2.2.2.2.2.1.length c73) y63.2.2.2.2.2.2.2.1 :: Row (Kd.int .i64) 3 (.slice none 0 0) ([] : List Int) :: Blk b9 [.slice A72 y63.2.2.2.2.2.2.2.1.length c73, .int .i64 y63.2.1, .int .i64 y63.2.2.2.2.2.2.2.2.1, .int .i64 y63.2.2.2.2.2.2.2.2.2.1, .int .i64 y63.2.2.2.2.2.2.2.2.2.2] 28 :: L)) rfl fsz28 rfl rfl rfl rfl rfl (Nat.le_of_ble_eq_true rfl) rfl rfl ?_)
    refine TL.cons (TO.val rfl rfl rfl (Val.assign rfl) ?_)
    refine TL.nil ?_
    refine TQ.then_ ?_
    refine TC.ret ?_
    obtain rfl := Option.some.inj h
    exact TQ.fin (.inl rfl) rfl Try.results11 (.cells 5 rfl rfl agg28 fsz28 (.tmp rfl .nil)) rfl (FRel.mk (Ls := [Row (Kd.int .i64) 3 (.slice A72 y63.2.2.2.2.2.2.2.1.length c73) y63.2.2.2.2.2.2.2.1]) [3] 6 (Gd.le.refl _) rfl rfl rfl ⟨rfl, A72, c73, rfl, rfl⟩)
 ·
  refine TC.region ?_
  refine TL.cons (TO.val rfl rfl rfl (Val.move rfl) ?_)
  refine TL.cons (TO.val rfl rfl rfl (Val.cmp rfl rfl run_lss) ?_)
  refine TL.cons (TO.val rfl rfl rfl (Val.move rfl) ?_)
  refine TK.split (p := a1 < 1) h (fun hg75 h => ?_) (fun hg75 h => ?_)
  ·
   have hk76 : decide (a1 < 1) = true := decide_eq_true hg75
   refine TL.cons (TL.not (Wt.no rfl rfl rfl hk76) rfl ?_)
   refine TL.cons (TL.not (Wt.no rfl rfl rfl hk76) rfl ?_)
   refine TL.cons (TO.val rfl rfl rfl (Val.pickY rfl hk76 rfl) ?_)
   refine TL.nil ?_
   exact fun a W hF hO => ⟨true, h, hF.sub ⟨rfl, rfl, trivial⟩, hO.selT (Ls := [Blk b9 [.slice none 0 0, .int .i64 0, .int .i64 0, .int .i64 0, .int .i64 0] 28]) [0] 1 rfl rfl rfl⟩
  ·
   have hk77 : decide (a1 < 1) = false := decide_eq_false hg75
   refine TL.cons (TO.val (Wt.yes rfl rfl rfl hk77) rfl rfl (Val.move rfl) ?_)
   refine TL.cons (TO.val (Wt.yes rfl rfl rfl hk77) rfl rfl (Val.cmp rfl rfl run_gtr) ?_)
   refine TL.cons (TO.val rfl rfl rfl (Val.pickN rfl hk77 rfl) ?_)
   refine TL.nil ?_
   exact fun a W hF hO => ⟨decide (1048576 < a1), h, hF.sub ⟨rfl, rfl, trivial⟩, hO.selT (Ls := [Blk b9 [.slice none 0 0, .int .i64 0, .int .i64 0, .int .i64 0, .int .i64 0] 28]) [0] 1 rfl rfl rfl⟩
end Go.Proofs.Ytfmocegnpmomnaa.Sy
set_option linter.unusedVariables false
set_option linter.unusedSimpArgs false
set_option maxRecDepth 100000
set_option maxHeartbeats 4000000
namespace Go.Proofs.Ytfmocegnpmomnaa.Sy
open Go Go.RowKit Go.Proofs.YtfmocegnpmomnaaW.PrintWords 
def swageref02_Ints.l0 (a0 : (List Int)) (a1 : (List Int)) : Nat → Int → Option (Sum Bool (Unit))
 | 0, _ => none
 | n248 + 1, x168 => (if x168 < (a0.length : Int) then (at? a0 x168).bind fun y385 => (at? a1 x168).bind fun y394 => (if (!decide (y385 = y394)) = true then some (.inl false) else swageref02_Ints.l0 a0 a1 n248 (IntKind.i64.wrap (x168 + 1))) else some (.inr ()))
def swageref02_Ints.f (a0 : (List Int)) (a1 : (List Int)) : Option Bool := (if (!decide ((a0.length : Int) = (a1.length : Int))) = true then some false else (swageref02_Ints.l0 a0 a1 (a0.length + 1) 0).bind fun | .inl q_ => some q_ | .inr _ => (some true))
def swageref02_Ints.post (G : Gd)  (r : Bool) (v : Value) (G' : Gd) (Lr : List Ch) : Prop := G = G' ∧ v = .bool r ∧ Lr = []
theorem swageref02_Ints.calls {G : Gd} {r : Bool} {a0 : (List Int)} {a1 : (List Int)} {A1 : Option Addr} {c2 : Nat} {A5 : Option Addr} {c6 : Nat} (hr3 : Rd G (Kd.int .i64) A1 a0) (hl4 : a0.length ≤ c2) (hr7 : Rd G (Kd.int .i64) A5 a1) (hl8 : a1.length ≤ c6) (h : swageref02_Ints.f a0 a1 = some r) : Fn Try.prog 14 G [] [.slice A1 a0.length c2, .slice A5 a1.length c6] (swageref02_Ints.post G  r) := by
 refine Fn.intro (e := [(0, .slice A1 a0.length c2), (1, .slice A5 a1.length c6)]) 26 Try.func14 rfl Try.ntmps14 rfl rfl (Nat.le_of_ble_eq_true rfl) (fun L => ?_)
 unfold swageref02_Ints.f at h
 refine TC.seq ?_
 refine TC.region ?_
 refine TL.cons (TO.val rfl rfl rfl (Val.assign rfl) ?_)
 refine TL.nil ?_
 refine TQ.then_ ?_
 refine TC.seq ?_
 refine TC.seq ?_
 refine TC.region ?_
 refine TL.cons (TO.val rfl rfl rfl (Val.move rfl) ?_)
 refine TL.cons (TO.val rfl rfl rfl (Val.len Try.underlying23 rfl) ?_)
 refine TL.cons (TO.val rfl rfl rfl (Val.move rfl) ?_)
 refine TL.cons (TO.val rfl rfl rfl (Val.len Try.underlying23 rfl) ?_)
 refine TL.cons (TO.val rfl rfl rfl (Val.cmp rfl rfl run_neq) ?_)
 refine TL.nil ?_
 refine TQ.then_ ?_
 refine TC.cond_b rfl h (fun hc10 h => ?_) (fun hc10 h => ?_)
 ·
  refine TC.seq ?_
  refine TC.region ?_
  refine TL.cons (TO.val rfl rfl rfl (Val.assign rfl) ?_)
  refine TL.nil ?_
  refine TQ.then_ ?_
  refine TC.ret ?_
  refine TQ.thenR ?_
  obtain rfl := Option.some.inj h
  exact TQ.fin (.inl rfl) rfl Try.results14 (.tmp rfl .nil) rfl (FRel.mk (Ls := []) [] 0 (Gd.le.refl _) rfl rfl rfl ⟨rfl, rfl, rfl⟩)
 ·
  refine TC.skip ?_
  refine TQ.then_ ?_
  refine TC.seq ?_
  refine TC.seq ?_
  refine TC.region ?_
  refine TL.cons (TO.val rfl rfl rfl (Val.assign rfl) ?_)
  refine TL.nil ?_
  refine TQ.then_ ?_
  obtain ⟨o247, ho247, ko247⟩ := bind_no h
  clear h
  refine TC.tail (fun a W => (.inr ()) = o247 ∧ Fr 26 a [] ∧ Own G (L) W) ?_ ?_
  ·
   rintro a W ⟨rfl, hF, hO⟩
   have h := ko247
   clear ko247 ho247
   refine TQ.use ?_ hF hO
   clear hF hO
   refine TQ.then_ ?_
   refine TC.seq ?_
   refine TC.region ?_
   refine TL.cons (TO.val rfl rfl rfl (Val.assign rfl) ?_)
   refine TL.nil ?_
   refine TQ.then_ ?_
   refine TC.ret ?_
   obtain rfl := Option.some.inj h
   exact TQ.fin (.inl rfl) rfl Try.results14 (.tmp rfl .nil) rfl (FRel.mk (Ls := []) [] 0 (Gd.le.refl _) rfl rfl rfl ⟨rfl, rfl, rfl⟩)
  ·
   refine TC.block ?_
   intro a W hF hO
   have hS : ∃ (x168 : Int), swageref02_Ints.l0 a0 a1 (a0.length + 1) x168 = some o247 ∧ Fr 26 a [(0, .slice A1 a0.length c2), (1, .slice A5 a1.length c6), (5, .int .i64 x168)] ∧ Own G (L) W := by
    exact ⟨0, ho247, hF.sub ⟨rfl, rfl, rfl, trivial⟩, hO.selT (Ls := []) [] 0 rfl rfl rfl⟩
   clear hF hO ho247
   refine TC.loop (fun n248 a W => ∃ (x168 : Int), swageref02_Ints.l0 a0 a1 n248 x168 = some o247 ∧ Fr 26 a [(0, .slice A1 a0.length c2), (1, .slice A5 a1.length c6), (5, .int .i64 x168)] ∧ Own G (L) W) ?_ ?_ hS
   ·
    rintro a W ⟨x168, h, hF, hO⟩
    exact none_no h
   ·
    clear hS
    rintro n248 a W ⟨x168, h, hF, hO⟩
    rw [swageref02_Ints.l0] at h
    refine TC.use ?_ hF hO
    clear hF hO
    refine TC.seq ?_
    refine TC.seq ?_
    refine TC.region ?_
    refine TL.cons (TO.val rfl rfl rfl (Val.move rfl) ?_)
    refine TL.cons (TO.val rfl rfl rfl (Val.move rfl) ?_)
    refine TL.cons (TO.val rfl rfl rfl (Val.len Try.underlying23 rfl) ?_)
    refine TL.cons (TO.val rfl rfl rfl (Val.cmp rfl rfl run_lss) ?_)
    refine TL.nil ?_
    refine TQ.then_ ?_
    refine TC.cond_p rfl h (fun hc328 h => ?_) (fun hc328 h => ?_)
    ·
     refine TC.skip ?_
     refine TQ.then_ ?_
     refine TC.seq ?_
     refine TC.block ?_
     refine TC.seq ?_
     refine TC.regionAny [] [0, 1, 2, 3, 4, 5, 6, 7, 8] mixed (by kernel_rfl) ?_
     refine TA.take 0 rfl (by kernel_rfl) rfl (PQ.then_ (PQ.inB (PQ.then_ (PQ.then_ (PQ.inB (PQ.then_ (PQ.then_ PQ.body))))))) rfl (Val.move rfl) (fun W hO => hO) ?_
     refine TA.take 1 rfl (by kernel_rfl) rfl (PQ.then_ (PQ.inB (PQ.then_ (PQ.then_ (PQ.inB (PQ.then_ (PQ.then_ PQ.body))))))) rfl (Val.move rfl) (fun W hO => hO) ?_
     obtain ⟨y385, hx386, h⟩ := bind_no h
     obtain ⟨ad387, cs393, hA388, hi389, hj390, hcl391, hK392⟩ := Rd.at hr3 hx386
     obtain rfl := RdK.int hK392
     refine TA.take 2 rfl (by kernel_rfl) rfl (PQ.then_ (PQ.inB (PQ.then_ (PQ.then_ (PQ.inB (PQ.then_ (PQ.then_ PQ.body))))))) rfl (Val.indexAddr Try.underlying23 fsz3 rfl hA388 rfl hi389 hj390) (fun W hO => hO) ?_
     refine TA.take 3 rfl (by kernel_rfl) rfl (PQ.then_ (PQ.inB (PQ.then_ (PQ.then_ (PQ.inB (PQ.then_ (PQ.then_ PQ.body))))))) rfl (Val.loadS agg3 rfl (hcl391 0 _ rfl)) (fun W hO => hO) ?_
     refine TA.take 4 rfl (by kernel_rfl) rfl (PQ.then_ (PQ.inB (PQ.then_ (PQ.then_ (PQ.inB (PQ.then_ (PQ.then_ PQ.body))))))) rfl (Val.move rfl) (fun W hO => hO) ?_
     refine TA.take 5 rfl (by kernel_rfl) rfl (PQ.then_ (PQ.inB (PQ.then_ (PQ.then_ (PQ.inB (PQ.then_ (PQ.then_ PQ.body))))))) rfl (Val.move rfl) (fun W hO => hO) ?_
     obtain ⟨y394, hx395, h⟩ := bind_no h
     obtain ⟨ad396, cs402, hA397, hi398, hj399, hcl400, hK401⟩ := Rd.at hr7 hx395
     obtain rfl := RdK.int hK401
     refine TA.take 6 rfl (by kernel_rfl) rfl (PQ.then_ (PQ.inB (PQ.then_ (PQ.then_ (PQ.inB (PQ.then_ (PQ.then_ PQ.body))))))) rfl (Val.indexAddr Try.underlying23 fsz3 rfl hA397 rfl hi398 hj399) (fun W hO => hO) ?_
     refine TA.take 7 rfl (by kernel_rfl) rfl (PQ.then_ (PQ.inB (PQ.then_ (PQ.then_ (PQ.inB (PQ.then_ (PQ.then_ PQ.body))))))) rfl (Val.loadS agg3 rfl (hcl400 0 _ rfl)) (fun W hO => hO) ?_
     refine TA.take 8 rfl (by kernel_rfl) rfl (PQ.then_ (PQ.inB (PQ.then_ (PQ.then_ (PQ.inB (PQ.then_ (PQ.then_ PQ.body))))))) rfl (Val.cmp rfl rfl run_neq) (fun W hO => hO) ?_
     refine TA.done (by kernel_rfl) ?_
     refine TQ.then_ ?_
     refine TC.cond_b rfl h (fun hc404 h => ?_) (fun hc404 h => ?_)
     ·
      refine TC.seq ?_
      refine TC.region ?_
      refine TL.cons (TO.val rfl rfl rfl (Val.assign rfl) ?_)
      refine TL.nil ?_
      refine TQ.then_ ?_
      refine TC.ret ?_
      refine TQ.inBR ?_
      refine TQ.thenR ?_
      refine TQ.thenR ?_
      refine TQ.inBR ?_
      refine TQ.thenR ?_
      refine TQ.thenR ?_
      obtain rfl := Option.some.inj h
      have h := ko247
      obtain rfl := Option.some.inj h
      exact TQ.fin (.inl rfl) rfl Try.results14 (.tmp rfl .nil) rfl (FRel.mk (Ls := []) [] 0 (Gd.le.refl _) rfl rfl rfl ⟨rfl, rfl, rfl⟩)
     ·
      refine TC.skip ?_
      refine TQ.inB ?_
      refine TQ.then_ ?_
      refine TC.region ?_
      refine TL.cons (TO.val rfl rfl rfl (Val.move rfl) ?_)
      refine TL.cons (TO.val rfl rfl rfl (Val.cmp rfl rfl run_add) ?_)
      refine TL.cons (TO.val rfl rfl rfl (Val.assign rfl) ?_)
      refine TL.nil ?_
      exact fun a W hF hO => ⟨IntKind.i64.wrap (x168 + 1), h, hF.sub ⟨rfl, rfl, rfl, trivial⟩, hO.selT (Ls := []) [] 0 rfl rfl rfl⟩
    ·
     refine TC.exit ?_
     refine TQ.thenX ?_
     refine TQ.thenX ?_
     refine TQ.inBX ?_
     exact fun a W hF hO => ⟨Option.some.inj h, hF.sub trivial, hO.selT (Ls := []) [] 0 rfl rfl rfl⟩
end Go.Proofs.Ytfmocegnpmomnaa.Sy
set_option linter.unusedVariables false
set_option linter.unusedSimpArgs false
set_option maxRecDepth 100000
set_option maxHeartbeats 4000000
namespace Go.Proofs.Ytfmocegnpmomnaa.Sy
open Go Go.RowKit Go.Proofs.YtfmocegnpmomnaaW.PrintWords 
def slices_Equal_int_int.l0 (a0 : (List Int)) (a1 : (List Int)) : Nat → Int → Option (Sum Bool (Unit))
 | 0, _ => none
 | n248 + 1, x168 => (if x168 < (a0.length : Int) then (at? a0 x168).bind fun y385 => (at? a1 x168).bind fun y394 => (if (!decide (y385 = y394)) = true then some (.inl false) else slices_Equal_int_int.l0 a0 a1 n248 (IntKind.i64.wrap (x168 + 1))) else some (.inr ()))
def slices_Equal_int_int.f (a0 : (List Int)) (a1 : (List Int)) : Option Bool := (if (!decide ((a0.length : Int) = (a1.length : Int))) = true then some false else (slices_Equal_int_int.l0 a0 a1 (a0.length + 1) 0).bind fun | .inl q_ => some q_ | .inr _ => (some true))
def slices_Equal_int_int.post (G : Gd)  (r : Bool) (v : Value) (G' : Gd) (Lr : List Ch) : Prop := G = G' ∧ v = .bool r ∧ Lr = []
theorem slices_Equal_int_int.calls {G : Gd} {r : Bool} {a0 : (List Int)} {a1 : (List Int)} {A1 : Option Addr} {c2 : Nat} {A5 : Option Addr} {c6 : Nat} (hr3 : Rd G (Kd.int .i64) A1 a0) (hl4 : a0.length ≤ c2) (hr7 : Rd G (Kd.int .i64) A5 a1) (hl8 : a1.length ≤ c6) (h : slices_Equal_int_int.f a0 a1 = some r) : Fn Try.prog 35 G [] [.slice A1 a0.length c2, .slice A5 a1.length c6] (slices_Equal_int_int.post G  r) := by
 refine Fn.intro (e := [(0, .slice A1 a0.length c2), (1, .slice A5 a1.length c6)]) 26 Try.func35 rfl Try.ntmps35 rfl rfl (Nat.le_of_ble_eq_true rfl) (fun L => ?_)
 unfold slices_Equal_int_int.f at h
 refine TC.seq ?_
 refine TC.region ?_
 refine TL.cons (TO.val rfl rfl rfl (Val.assign rfl) ?_)
 refine TL.nil ?_
 refine TQ.then_ ?_
 refine TC.seq ?_
 refine TC.seq ?_
 refine TC.region ?_
 refine TL.cons (TO.val rfl rfl rfl (Val.move rfl) ?_)
 refine TL.cons (TO.val rfl rfl rfl (Val.len Try.underlying23 rfl) ?_)
 refine TL.cons (TO.val rfl rfl rfl (Val.move rfl) ?_)
 refine TL.cons (TO.val rfl rfl rfl (Val.len Try.underlying23 rfl) ?_)
 refine TL.cons (TO.val rfl rfl rfl (Val.cmp rfl rfl run_neq) ?_)
 refine TL.nil ?_
 refine TQ.then_ ?_
 refine TC.cond_b rfl h (fun hc10 h => ?_) (fun hc10 h => ?_)
 ·
  refine TC.seq ?_
  refine TC.region ?_
  refine TL.cons (TO.val rfl rfl rfl (Val.assign rfl) ?_)
  refine TL.nil ?_
  refine TQ.then_ ?_
  refine TC.ret ?_
  refine TQ.thenR ?_
  obtain rfl := Option.some.inj h
  exact TQ.fin (.inl rfl) rfl Try.results35 (.tmp rfl .nil) rfl (FRel.mk (Ls := []) [] 0 (Gd.le.refl _) rfl rfl rfl ⟨rfl, rfl, rfl⟩)
 ·
  refine TC.skip ?_
  refine TQ.then_ ?_
  refine TC.seq ?_
  refine TC.seq ?_
  refine TC.region ?_
  refine TL.cons (TO.val rfl rfl rfl (Val.move rfl) ?_)
  refine TL.cons (TO.val rfl rfl rfl (Val.len Try.underlying23 rfl) ?_)
  refine TL.cons (TO.val rfl rfl rfl (Val.move rfl) ?_)
  refine TL.nil ?_
  refine TQ.then_ ?_
  obtain ⟨o247, ho247, ko247⟩ := bind_no h
  clear h
  refine TC.tail (fun a W => (.inr ()) = o247 ∧ Fr 26 a [] ∧ Own G (L) W) ?_ ?_
  ·
   rintro a W ⟨rfl, hF, hO⟩
   have h := ko247
   clear ko247 ho247
   refine TQ.use ?_ hF hO
   clear hF hO
   refine TQ.then_ ?_
   refine TC.seq ?_
   refine TC.region ?_
   refine TL.cons (TO.val rfl rfl rfl (Val.assign rfl) ?_)
   refine TL.nil ?_
   refine TQ.then_ ?_
   refine TC.ret ?_
   obtain rfl := Option.some.inj h
   exact TQ.fin (.inl rfl) rfl Try.results35 (.tmp rfl .nil) rfl (FRel.mk (Ls := []) [] 0 (Gd.le.refl _) rfl rfl rfl ⟨rfl, rfl, rfl⟩)
  ·
   refine TC.block ?_
   intro a W hF hO
   have hS : ∃ (x168 : Int), slices_Equal_int_int.l0 a0 a1 (a0.length + 1) x168 = some o247 ∧ Fr 26 a [(0, .slice A1 a0.length c2), (1, .slice A5 a1.length c6), (12, .int .i64 (a0.length : Int)), (13, .int .i64 x168)] ∧ Own G (L) W := by
    exact ⟨0, ho247, hF.sub ⟨rfl, rfl, rfl, rfl, trivial⟩, hO.selT (Ls := []) [] 0 rfl rfl rfl⟩
   clear hF hO ho247
   refine TC.loop (fun n248 a W => ∃ (x168 : Int), slices_Equal_int_int.l0 a0 a1 n248 x168 = some o247 ∧ Fr 26 a [(0, .slice A1 a0.length c2), (1, .slice A5 a1.length c6), (12, .int .i64 (a0.length : Int)), (13, .int .i64 x168)] ∧ Own G (L) W) ?_ ?_ hS
   ·
    rintro a W ⟨x168, h, hF, hO⟩
    exact none_no h
   ·
    clear hS
    rintro n248 a W ⟨x168, h, hF, hO⟩
    rw [slices_Equal_int_int.l0] at h
    refine TC.use ?_ hF hO
    clear hF hO
    refine TC.seq ?_
    refine TC.region ?_
    refine TL.cons (TO.val rfl rfl rfl (Val.cmp rfl rfl run_lss) ?_)
    refine TL.nil ?_
    refine TQ.then_ ?_
    refine TC.seq ?_
    refine TC.cond_p rfl h (fun hc328 h => ?_) (fun hc328 h => ?_)
    ·
     refine TC.skip ?_
     refine TQ.then_ ?_
     refine TC.seq ?_
     refine TC.block ?_
     refine TC.seq ?_
     refine TC.region ?_
     refine TL.cons (TO.val rfl rfl rfl (Val.move rfl) ?_)
     refine TL.cons (TO.val rfl rfl rfl (Val.assign rfl) ?_)
     refine TL.nil ?_
     refine TQ.then_ ?_
     refine TC.seq ?_
     refine TC.regionAny [] [0, 1, 2, 3, 4, 5, 6, 7, 8] mixed (by kernel_rfl) ?_
     refine TA.take 0 rfl (by kernel_rfl) rfl (PQ.then_ (PQ.inB (PQ.then_ (PQ.then_ (PQ.inB (PQ.then_ (PQ.then_ PQ.body))))))) rfl (Val.move rfl) (fun W hO => hO) ?_
     refine TA.take 1 rfl (by kernel_rfl) rfl (PQ.then_ (PQ.inB (PQ.then_ (PQ.then_ (PQ.inB (PQ.then_ (PQ.then_ PQ.body))))))) rfl (Val.move rfl) (fun W hO => hO) ?_
     obtain ⟨y385, hx386, h⟩ := bind_no h
     obtain ⟨ad387, cs393, hA388, hi389, hj390, hcl391, hK392⟩ := Rd.at hr3 hx386
     obtain rfl := RdK.int hK392
     refine TA.take 2 rfl (by kernel_rfl) rfl (PQ.then_ (PQ.inB (PQ.then_ (PQ.then_ (PQ.inB (PQ.then_ (PQ.then_ PQ.body))))))) rfl (Val.indexAddr Try.underlying23 fsz3 rfl hA388 rfl hi389 hj390) (fun W hO => hO) ?_
     refine TA.take 3 rfl (by kernel_rfl) rfl (PQ.then_ (PQ.inB (PQ.then_ (PQ.then_ (PQ.inB (PQ.then_ (PQ.then_ PQ.body))))))) rfl (Val.loadS agg3 rfl (hcl391 0 _ rfl)) (fun W hO => hO) ?_
     refine TA.take 4 rfl (by kernel_rfl) rfl (PQ.then_ (PQ.inB (PQ.then_ (PQ.then_ (PQ.inB (PQ.then_ (PQ.then_ PQ.body))))))) rfl (Val.move rfl) (fun W hO => hO) ?_
     refine TA.take 5 rfl (by kernel_rfl) rfl (PQ.then_ (PQ.inB (PQ.then_ (PQ.then_ (PQ.inB (PQ.then_ (PQ.then_ PQ.body))))))) rfl (Val.move rfl) (fun W hO => hO) ?_
     obtain ⟨y394, hx395, h⟩ := bind_no h
     obtain ⟨ad396, cs402, hA397, hi398, hj399, hcl400, hK401⟩ := Rd.at hr7 hx395
     obtain rfl := RdK.int hK401
     refine TA.take 6 rfl (by kernel_rfl) rfl (PQ.then_ (PQ.inB (PQ.then_ (PQ.then_ (PQ.inB (PQ.then_ (PQ.then_ PQ.body))))))) rfl (Val.indexAddr Try.underlying23 fsz3 rfl hA397 rfl hi398 hj399) (fun W hO => hO) ?_
     refine TA.take 7 rfl (by kernel_rfl) rfl (PQ.then_ (PQ.inB (PQ.then_ (PQ.then_ (PQ.inB (PQ.then_ (PQ.then_ PQ.body))))))) rfl (Val.loadS agg3 rfl (hcl400 0 _ rfl)) (fun W hO => hO) ?_
     refine TA.take 8 rfl (by kernel_rfl) rfl (PQ.then_ (PQ.inB (PQ.then_ (PQ.then_ (PQ.inB (PQ.then_ (PQ.then_ PQ.body))))))) rfl (Val.cmp rfl rfl run_neq) (fun W hO => hO) ?_
     refine TA.done (by kernel_rfl) ?_
     refine TQ.then_ ?_
     refine TC.cond_b rfl h (fun hc404 h => ?_) (fun hc404 h => ?_)
     ·
      refine TC.seq ?_
      refine TC.region ?_
      refine TL.cons (TO.val rfl rfl rfl (Val.assign rfl) ?_)
      refine TL.nil ?_
      refine TQ.then_ ?_
      refine TC.ret ?_
      refine TQ.inBR ?_
      refine TQ.thenR ?_
      refine TQ.thenR ?_
      refine TQ.inBR ?_
      refine TQ.thenR ?_
      refine TQ.thenR ?_
      obtain rfl := Option.some.inj h
      have h := ko247
      obtain rfl := Option.some.inj h
      exact TQ.fin (.inl rfl) rfl Try.results35 (.tmp rfl .nil) rfl (FRel.mk (Ls := []) [] 0 (Gd.le.refl _) rfl rfl rfl ⟨rfl, rfl, rfl⟩)
     ·
      refine TC.skip ?_
      refine TQ.inB ?_
      refine TQ.then_ ?_
      refine TC.region ?_
      refine TL.cons (TO.val rfl rfl rfl (Val.cmp rfl rfl run_add) ?_)
      refine TL.cons (TO.val rfl rfl rfl (Val.move rfl) ?_)
      refine TL.nil ?_
      exact fun a W hF hO => ⟨IntKind.i64.wrap (x168 + 1), h, hF.sub ⟨rfl, rfl, rfl, rfl, trivial⟩, hO.selT (Ls := []) [] 0 rfl rfl rfl⟩
    ·
     refine TC.exit ?_
     refine TQ.thenX ?_
     refine TQ.thenX ?_
     refine TQ.inBX ?_
     exact fun a W hF hO => ⟨Option.some.inj h, hF.sub trivial, hO.selT (Ls := []) [] 0 rfl rfl rfl⟩
end Go.Proofs.Ytfmocegnpmomnaa.Sy
set_option linter.unusedVariables false
set_option linter.unusedSimpArgs false
set_option maxRecDepth 100000
set_option maxHeartbeats 4000000
namespace Go.Proofs.Ytfmocegnpmomnaa.Sy
open Go Go.RowKit Go.Proofs.YtfmocegnpmomnaaW.PrintWords 
def trace_Prefix.f (a0 : S28) (a1 : S28) : Option Bool := (if (a0.f0.length : Int) ≤ (a1.f0.length : Int) then (cut? a1.f0 (0 : Int) (a0.f0.length : Int)).bind fun (y40 : (List Int)) => (slices_Equal_int_int.f a0.f0 y40).bind fun (y44 : Bool) => some y44 else some false)
def trace_Prefix.post (G : Gd)  (r : Bool) (v : Value) (G' : Gd) (Lr : List Ch) : Prop := G = G' ∧ v = .bool r ∧ Lr = []
theorem trace_Prefix.calls {G : Gd} {r : Bool} {a0 : S28} {a1 : S28} {A1 : Option Addr} {c2 : Nat} {A5 : Option Addr} {c6 : Nat} (hr3 : Rd G (Kd.int .i64) A1 a0.f0) (hl4 : a0.f0.length ≤ c2) (hr7 : Rd G (Kd.int .i64) A5 a1.f0) (hl8 : a1.f0.length ≤ c6) (h : trace_Prefix.f a0 a1 = some r) : Fn Try.prog 15 G [] [.agg #[.slice A1 a0.f0.length c2, .int .i64 a0.f1, .int .i64 a0.f2, .int .i64 a0.f3, .int .i64 a0.f4], .agg #[.slice A5 a1.f0.length c6, .int .i64 a1.f1, .int .i64 a1.f2, .int .i64 a1.f3, .int .i64 a1.f4]] (trace_Prefix.post G  r) := by
 refine Fn.intro (e := [(0, .agg #[.slice A1 a0.f0.length c2, .int .i64 a0.f1, .int .i64 a0.f2, .int .i64 a0.f3, .int .i64 a0.f4]), (1, .agg #[.slice A5 a1.f0.length c6, .int .i64 a1.f1, .int .i64 a1.f2, .int .i64 a1.f3, .int .i64 a1.f4])]) 23 Try.func15 rfl Try.ntmps15 rfl rfl (Nat.le_of_ble_eq_true rfl) (fun L => ?_)
 unfold trace_Prefix.f at h
 refine TC.seq ?_
 refine TC.region ?_
 refine TL.cons (TL.box (cs := [.slice A1 a0.f0.length c2, .int .i64 a0.f1, .int .i64 a0.f2, .int .i64 a0.f3, .int .i64 a0.f4]) rfl rfl rfl rfl (fun b9 => ?_))
 refine TL.cons (TL.box (cs := [.slice A5 a1.f0.length c6, .int .i64 a1.f1, .int .i64 a1.f2, .int .i64 a1.f3, .int .i64 a1.f4]) rfl rfl rfl rfl (fun b10 => ?_))
 refine TL.cons (TO.val rfl rfl rfl (Val.assign rfl) ?_)
 refine TL.nil ?_
 refine TQ.then_ ?_
 refine TC.seq ?_
 refine TC.regionAny [] [0, 1, 2, 3, 4, 5, 6, 7, 8, 9, 10, 11, 12, 13, 14, 15, 16, 17, 18] mixed (by kernel_rfl) ?_
 refine TA.take 0 rfl (by kernel_rfl) rfl (PQ.then_ PQ.body) rfl (Val.fieldAddrB Try.underlying28 rfl fsz23 rfl rfl rfl) (fun W hO => hO) ?_
 refine TA.take 1 rfl (by kernel_rfl) rfl (PQ.then_ PQ.body) rfl (Val.loadB 1 agg23 rfl rfl rfl) (fun W hO => hO) ?_
 refine TA.take 2 rfl (by kernel_rfl) rfl (PQ.then_ PQ.body) rfl (Val.len Try.underlying23 rfl) (fun W hO => hO) ?_
 refine TA.take 3 rfl (by kernel_rfl) rfl (PQ.then_ PQ.body) rfl (Val.fieldAddrB Try.underlying28 rfl fsz23 rfl rfl rfl) (fun W hO => hO) ?_
 refine TA.take 4 rfl (by kernel_rfl) rfl (PQ.then_ PQ.body) rfl (Val.loadB 0 agg23 rfl rfl rfl) (fun W hO => hO) ?_
 refine TA.take 5 rfl (by kernel_rfl) rfl (PQ.then_ PQ.body) rfl (Val.len Try.underlying23 rfl) (fun W hO => hO) ?_
 refine TA.take 6 rfl (by kernel_rfl) rfl (PQ.then_ PQ.body) rfl (Val.cmp rfl rfl run_leq) (fun W hO => hO) ?_
 refine TA.take 7 rfl (by kernel_rfl) rfl (PQ.then_ PQ.body) rfl (Val.move rfl) (fun W hO => hO) ?_
 refine TK.split (p := (a0.f0.length : Int) ≤ (a1.f0.length : Int)) h (fun hg38 h => ?_) (fun hg38 h => ?_)
 ·
  have hk39 : decide ((a0.f0.length : Int) ≤ (a1.f0.length : Int)) = true := decide_eq_true hg38
  refine TA.take 8 rfl (by kernel_rfl) rfl (PQ.then_ PQ.body) (Wt.yes rfl rfl rfl hk39) (Val.fieldAddrB Try.underlying28 rfl fsz23 rfl rfl rfl) (fun W hO => hO) ?_
  refine TA.take 9 rfl (by kernel_rfl) rfl (PQ.then_ PQ.body) (Wt.yes rfl rfl rfl hk39) (Val.loadB 1 agg23 rfl rfl rfl) (fun W hO => hO) ?_
  refine TA.take 10 rfl (by kernel_rfl) rfl (PQ.then_ PQ.body) (Wt.yes rfl rfl rfl hk39) (Val.fieldAddrB Try.underlying28 rfl fsz23 rfl rfl rfl) (fun W hO => hO) ?_
  refine TA.take 11 rfl (by kernel_rfl) rfl (PQ.then_ PQ.body) (Wt.yes rfl rfl rfl hk39) (Val.loadB 0 agg23 rfl rfl rfl) (fun W hO => hO) ?_
  refine TA.take 12 rfl (by kernel_rfl) rfl (PQ.then_ PQ.body) (Wt.yes rfl rfl rfl hk39) (Val.fieldAddrB Try.underlying28 rfl fsz23 rfl rfl rfl) (fun W hO => hO) ?_
  refine TA.take 13 rfl (by kernel_rfl) rfl (PQ.then_ PQ.body) (Wt.yes rfl rfl rfl hk39) (Val.loadB 1 agg23 rfl rfl rfl) (fun W hO => hO) ?_
  refine TA.take 14 rfl (by kernel_rfl) rfl (PQ.then_ PQ.body) (Wt.yes rfl rfl rfl hk39) (Val.len Try.underlying23 rfl) (fun W hO => hO) ?_
  obtain ⟨y40, hy41, h⟩ := bind_no h
  obtain ⟨hr42, hl43⟩ := Rd.cut hr7 hl8 hy41
  refine TA.take 15 rfl (by kernel_rfl) rfl (PQ.then_ PQ.body) (Wt.yes rfl rfl rfl hk39) (Val.cut Try.underlying23 fsz3 rfl rfl hl8 rfl rfl hy41) (fun W hO => hO) ?_
  obtain ⟨y44, hy45, h⟩ := bind_no h
  refine TA.eff 16 rfl (by kernel_rfl) rfl (TL.callV (Lin := []) (args := [.slice A1 a0.f0.length c2, .slice (cutA A5 c6 (0 : Int).toNat 1) y40.length (c6 - (0 : Int).toNat)]) (Wt.yes rfl rfl rfl hk39) rfl rfl hbd35 rfl rfl (slices_Equal_int_int.calls (a0 := a0.f0) (a1 := y40) hr3 hl4 hr42 hl43 hy45) rfl ?_)
  rintro _ _ _ _ ⟨rfl, rfl, rfl⟩
  refine TA.next (fun W hO => hO) ?_
  refine TA.take 17 rfl (by kernel_rfl) rfl (PQ.then_ PQ.body) rfl (Val.pickY rfl hk39 rfl) (fun W hO => hO) ?_
  refine TA.take 18 rfl (by kernel_rfl) rfl (PQ.then_ PQ.body) rfl (Val.assign rfl) (fun W hO => hO) ?_
  refine TA.done (by kernel_rfl) ?_
  refine TQ.then_ ?_
  refine TC.ret ?_
  obtain rfl := Option.some.inj h
  exact TQ.fin (.inl rfl) rfl Try.results15 (.tmp rfl .nil) rfl (FRel.mk (Ls := []) [] 2 (Gd.le.refl _) rfl rfl rfl ⟨rfl, rfl, rfl⟩)
 ·
  have hk46 : decide ((a0.f0.length : Int) ≤ (a1.f0.length : Int)) = false := decide_eq_false hg38
  refine TA.not 8 rfl (by kernel_rfl) rfl (PQ.then_ PQ.body) (Wt.no rfl rfl rfl hk46) (fun W hO => hO) ?_
  refine TA.not 9 rfl (by kernel_rfl) rfl (PQ.then_ PQ.body) (Wt.no rfl rfl rfl hk46) (fun W hO => hO) ?_
  refine TA.not 10 rfl (by kernel_rfl) rfl (PQ.then_ PQ.body) (Wt.no rfl rfl rfl hk46) (fun W hO => hO) ?_
  refine TA.not 11 rfl (by kernel_rfl) rfl (PQ.then_ PQ.body) (Wt.no rfl rfl rfl hk46) (fun W hO => hO) ?_
  refine TA.not 12 rfl (by kernel_rfl) rfl (PQ.then_ PQ.body) (Wt.no rfl rfl rfl hk46) (fun W hO => hO) ?_
  refine TA.not 13 rfl (by kernel_rfl) rfl (PQ.then_ PQ.body) (Wt.no rfl rfl rfl hk46) (fun W hO => hO) ?_
  refine TA.not 14 rfl (by kernel_rfl) rfl (PQ.then_ PQ.body) (Wt.no rfl rfl rfl hk46) (fun W hO => hO) ?_
  refine TA.not 15 rfl (by kernel_rfl) rfl (PQ.then_ PQ.body) (Wt.no rfl rfl rfl hk46) (fun W hO => hO) ?_
  refine TA.not 16 rfl (by kernel_rfl) rfl (PQ.then_ PQ.body) (Wt.no rfl rfl rfl hk46) (fun W hO => hO) ?_
  refine TA.take 17 rfl (by kernel_rfl) rfl (PQ.then_ PQ.body) rfl (Val.pickN rfl hk46 rfl) (fun W hO => hO) ?_
  refine TA.take 18 rfl (by kernel_rfl) rfl (PQ.then_ PQ.body) rfl (Val.assign rfl) (fun W hO => hO) ?_
  refine TA.done (by kernel_rfl) ?_
  refine TQ.then_ ?_
  refine TC.ret ?_
  obtain rfl := Option.some.inj h
  exact TQ.fin (.inl rfl) rfl Try.results15 (.tmp rfl .nil) rfl (FRel.mk (Ls := []) [] 2 (Gd.le.refl _) rfl rfl rfl ⟨rfl, rfl, rfl⟩)
end Go.Proofs.Ytfmocegnpmomnaa.Sy
set_option linter.unusedVariables false
set_option linter.unusedSimpArgs false
set_option maxRecDepth 100000
set_option maxHeartbeats 4000000
namespace Go.Proofs.Ytfmocegnpmomnaa.Sy
open Go Go.RowKit Go.Proofs.YtfmocegnpmomnaaW.PrintWords 
def trace_Same.f (a0 : S28) (a1 : S28) : Option Bool := (if a0.f1 = a1.f1 then (slices_Equal_int_int.f a0.f0 a1.f0).bind fun (y18 : Bool) => some y18 else some false)
def trace_Same.post (G : Gd)  (r : Bool) (v : Value) (G' : Gd) (Lr : List Ch) : Prop := G = G' ∧ v = .bool r ∧ Lr = []
theorem trace_Same.calls {G : Gd} {r : Bool} {a0 : S28} {a1 : S28} {A1 : Option Addr} {c2 : Nat} {A5 : Option Addr} {c6 : Nat} (hr3 : Rd G (Kd.int .i64) A1 a0.f0) (hl4 : a0.f0.length ≤ c2) (hr7 : Rd G (Kd.int .i64) A5 a1.f0) (hl8 : a1.f0.length ≤ c6) (h : trace_Same.f a0 a1 = some r) : Fn Try.prog 17 G [] [.agg #[.slice A1 a0.f0.length c2, .int .i64 a0.f1, .int .i64 a0.f2, .int .i64 a0.f3, .int .i64 a0.f4], .agg #[.slice A5 a1.f0.length c6, .int .i64 a1.f1, .int .i64 a1.f2, .int .i64 a1.f3, .int .i64 a1.f4]] (trace_Same.post G  r) := by
 refine Fn.intro (e := [(0, .agg #[.slice A1 a0.f0.length c2, .int .i64 a0.f1, .int .i64 a0.f2, .int .i64 a0.f3, .int .i64 a0.f4]), (1, .agg #[.slice A5 a1.f0.length c6, .int .i64 a1.f1, .int .i64 a1.f2, .int .i64 a1.f3, .int .i64 a1.f4])]) 17 Try.func17 rfl Try.ntmps17 rfl rfl (Nat.le_of_ble_eq_true rfl) (fun L => ?_)
 unfold trace_Same.f at h
 refine TC.seq ?_
 refine TC.region ?_
 refine TL.cons (TL.box (cs := [.slice A1 a0.f0.length c2, .int .i64 a0.f1, .int .i64 a0.f2, .int .i64 a0.f3, .int .i64 a0.f4]) rfl rfl rfl rfl (fun b9 => ?_))
 refine TL.cons (TL.box (cs := [.slice A5 a1.f0.length c6, .int .i64 a1.f1, .int .i64 a1.f2, .int .i64 a1.f3, .int .i64 a1.f4]) rfl rfl rfl rfl (fun b10 => ?_))
 refine TL.cons (TO.val rfl rfl rfl (Val.assign rfl) ?_)
 refine TL.nil ?_
 refine TQ.then_ ?_
 refine TC.seq ?_
 refine TC.region ?_
 refine TL.cons (TO.val rfl rfl rfl (Val.fieldAddrB Try.underlying28 rfl fsz26 rfl rfl rfl) ?_)
 refine TL.cons (TO.val rfl rfl rfl (Val.loadB 1 agg26 rfl rfl rfl) ?_)
 refine TL.cons (TO.val rfl rfl rfl (Val.fieldAddrB Try.underlying28 rfl fsz26 rfl rfl rfl) ?_)
 refine TL.cons (TO.val rfl rfl rfl (Val.loadB 0 agg26 rfl rfl rfl) ?_)
 refine TL.cons (TO.val rfl rfl rfl (Val.cmp rfl rfl run_eql) ?_)
 refine TL.cons (TO.val rfl rfl rfl (Val.move rfl) ?_)
 refine TK.split (p := a0.f1 = a1.f1) h (fun hg16 h => ?_) (fun hg16 h => ?_)
 ·
  have hk17 : decide (a0.f1 = a1.f1) = true := decide_eq_true hg16
  refine TL.cons (TO.val (Wt.yes rfl rfl rfl hk17) rfl rfl (Val.fieldAddrB Try.underlying28 rfl fsz23 rfl rfl rfl) ?_)
  refine TL.cons (TO.val (Wt.yes rfl rfl rfl hk17) rfl rfl (Val.loadB 1 agg23 rfl rfl rfl) ?_)
  refine TL.cons (TO.val (Wt.yes rfl rfl rfl hk17) rfl rfl (Val.fieldAddrB Try.underlying28 rfl fsz23 rfl rfl rfl) ?_)
  refine TL.cons (TO.val (Wt.yes rfl rfl rfl hk17) rfl rfl (Val.loadB 0 agg23 rfl rfl rfl) ?_)
  obtain ⟨y18, hy19, h⟩ := bind_no h
  refine TL.cons (TL.callV (Lin := []) (args := [.slice A1 a0.f0.length c2, .slice A5 a1.f0.length c6]) (Wt.yes rfl rfl rfl hk17) rfl rfl hbd35 rfl rfl (slices_Equal_int_int.calls (a0 := a0.f0) (a1 := a1.f0) hr3 hl4 hr7 hl8 hy19) rfl ?_)
  rintro _ _ _ _ ⟨rfl, rfl, rfl⟩
  refine TL.cons (TO.val rfl rfl rfl (Val.pickY rfl hk17 rfl) ?_)
  refine TL.cons (TO.val rfl rfl rfl (Val.assign rfl) ?_)
  refine TL.nil ?_
  refine TQ.then_ ?_
  refine TC.ret ?_
  obtain rfl := Option.some.inj h
  exact TQ.fin (.inl rfl) rfl Try.results17 (.tmp rfl .nil) rfl (FRel.mk (Ls := []) [] 2 (Gd.le.refl _) rfl rfl rfl ⟨rfl, rfl, rfl⟩)
 ·
  have hk20 : decide (a0.f1 = a1.f1) = false := decide_eq_false hg16
  refine TL.cons (TL.not (Wt.no rfl rfl rfl hk20) rfl ?_)
  refine TL.cons (TL.not (Wt.no rfl rfl rfl hk20) rfl ?_)
  refine TL.cons (TL.not (Wt.no rfl rfl rfl hk20) rfl ?_)
  refine TL.cons (TL.not (Wt.no rfl rfl rfl hk20) rfl ?_)
  refine TL.cons (TL.not (Wt.no rfl rfl rfl hk20) rfl ?_)
  refine TL.cons (TO.val rfl rfl rfl (Val.pickN rfl hk20 rfl) ?_)
  refine TL.cons (TO.val rfl rfl rfl (Val.assign rfl) ?_)
  refine TL.nil ?_
  refine TQ.then_ ?_
  refine TC.ret ?_
  obtain rfl := Option.some.inj h
  exact TQ.fin (.inl rfl) rfl Try.results17 (.tmp rfl .nil) rfl (FRel.mk (Ls := []) [] 2 (Gd.le.refl _) rfl rfl rfl ⟨rfl, rfl, rfl⟩)
end Go.Proofs.Ytfmocegnpmomnaa.Sy
set_option linter.unusedVariables false
set_option linter.unusedSimpArgs false
set_option maxRecDepth 100000
set_option maxHeartbeats 4000000
namespace Go.Proofs.Ytfmocegnpmomnaa.Sy
open Go Go.RowKit Go.Proofs.YtfmocegnpmomnaaW.PrintWords 
def swagelaw15_small.f : Option Bool := (trace_Run.f ([(⟨0, ([(⟨([(⟨1, 1, 0, 0, 4, ([] : List Int)⟩ : S37), (⟨9, 0, 1, 0, 0, ([] : List Int)⟩ : S37)] : List S37), (⟨3, 1, 0, 0⟩ : S40)⟩ : S42)] : List S42)⟩ : S45)] : List S45) 10 ([] : List Int) 9).bind fun (y25 : (S28 × Int)) => (trace_Run.f ([(⟨0, ([(⟨([(⟨1, 1, 0, 0, 4, ([] : List Int)⟩ : S37), (⟨9, 0, 1, 0, 0, ([] : List Int)⟩ : S37)] : List S37), (⟨3, 1, 0, 0⟩ : S40)⟩ : S42)] : List S42)⟩ : S45)] : List S45) 10 ([] : List Int) 2).bind fun (y38 : (S28 × Int)) => (if y25.2 = 0 then (if y25.1.f1 = 0 then (swageref02_Ints.f y25.1.f0 ([4] : List Int)).bind fun (y101 : Bool) => (if y101 = true then (if y38.2 = 0 then (if y38.1.f1 = 12 then (trace_Prefix.f y38.1 y25.1).bind fun (y114 : Bool) => (if y114 = true then (trace_Same.f y25.1 y38.1).bind fun (y118 : Bool) => some (!y118) else some false) else some false) else some false) else some false) else some false) else some false)
def swagelaw15_small.post (G : Gd)  (r : Bool) (v : Value) (G' : Gd) (Lr : List Ch) : Prop := v = .bool r ∧ Lr = []
theorem swagelaw15_small.calls {G : Gd} {r : Bool} (h : swagelaw15_small.f = some r) : Fn Try.prog 9 G [] [] (swagelaw15_small.post G  r) := by
 refine Fn.intro (e := []) 58 Try.func9 rfl Try.ntmps9 rfl rfl (Nat.le_of_ble_eq_true rfl) (fun L => ?_)
 unfold swagelaw15_small.f at h
 refine TC.seq ?_
 refine TC.region ?_
 refine TL.cons (TO.val rfl rfl rfl (Val.assign rfl) ?_)
 refine TL.nil ?_
 refine TQ.then_ ?_
 refine TC.seq ?_
 refine TC.region ?_
 refine TL.cons (TO.val rfl rfl rfl (Val.build (cs := [.int .i64 1, .int .i64 1, .int .i64 0, .int .i64 0, .int .i64 4, .slice none 0 0]) (is := [0, 1, 4]) (xs := [.const (.int .i64 1), .const (.int .i64 1), .const (.int .i64 4)]) Try.underlying37 zr37 bld37 rfl rfl rfl rfl) ?_)
 refine TL.cons (TO.val rfl rfl rfl (Val.build (cs := [.int .i64 9, .int .i64 0, .int .i64 1, .int .i64 0, .int .i64 0, .slice none 0 0]) (is := [0, 2]) (xs := [.const (.int .i64 9), .const (.int .i64 1)]) Try.underlying37 zr37 bld37 rfl rfl rfl rfl) ?_)
 refine TL.cons (TL.buildSlice (xs := [.tmp 6, .tmp 7]) (vs := [.agg #[.int .i64 1, .int .i64 1, .int .i64 0, .int .i64 0, .int .i64 4, .slice none 0 0], .agg #[.int .i64 9, .int .i64 0, .int .i64 1, .int .i64 0, .int .i64 0, .slice none 0 0]]) (cs := [.int .i64 1, .int .i64 1, .int .i64 0, .int .i64 0, .int .i64 4, .slice none 0 0, .int .i64 9, .int .i64 0, .int .i64 1, .int .i64 0, .int .i64 0, .slice none 0 0]) rfl rfl Try.underlying38 zs37 rfl rfl rfl rfl rfl rfl rfl rfl (fun b1 => ?_))
 refine TL.cons (TO.val rfl rfl rfl (Val.build (cs := [.int .i64 3, .int .i64 1, .int .i64 0, .int .i64 0]) (is := [0, 1]) (xs := [.const (.int .i64 3), .const (.int .i64 1)]) Try.underlying40 zr40 bld40 rfl rfl rfl rfl) ?_)
 refine TL.cons (TO.val rfl rfl rfl (Val.build (cs := [.slice (some ⟨b1, 0, none⟩) 2 2, .int .i64 3, .int .i64 1, .int .i64 0, .int .i64 0]) (is := [0, 1]) (xs := [.tmp 8, .tmp 9]) Try.underlying42 zr42 bld42 rfl rfl rfl rfl) ?_)
 refine TL.cons (TL.buildSlice (xs := [.tmp 10]) (vs := [.agg #[.slice (some ⟨b1, 0, none⟩) 2 2, .int .i64 3, .int .i64 1, .int .i64 0, .int .i64 0]]) (cs := [.slice (some ⟨b1, 0, none⟩) 2 2, .int .i64 3, .int .i64 1, .int .i64 0, .int .i64 0]) rfl rfl Try.underlying43 zs42 rfl rfl rfl rfl rfl rfl rfl rfl (fun b2 => ?_))
 refine TL.cons (TO.val rfl rfl rfl (Val.build (cs := [.int .i64 0, .slice (some ⟨b2, 0, none⟩) 1 1]) (is := [1]) (xs := [.tmp 11]) Try.underlying45 zr45 bld45 rfl rfl rfl rfl) ?_)
 refine TL.cons (TL.alloc (cs := [.int .i64 0, .slice none 0 0]) rfl rfl zr45 rfl (fun b3 => ?_))
 refine TL.cons (TL.store 0 (ds := [.int .i64 0, .slice (some ⟨b2, 0, none⟩) 1 1]) (cs' := [.int .i64 0, .slice (some ⟨b2, 0, none⟩) 1 1]) (L' := (Blk b3 [.int .i64 0, .slice (some ⟨b2, 0, none⟩) 1 1] 45 :: Blk b2 [.slice (some ⟨b1, 0, none⟩) 2 2, .int .i64 3, .int .i64 1, .int .i64 0, .int .i64 0] 42 :: Blk b1 [.int .i64 1, .int .i64 1, .int .i64 0, .int .i64 0, .int .i64 4, .slice none 0 0, .int .i64 9, .int .i64 0, .int .i64 1, .int .i64 0, .int .i64 0, .slice none 0 0] 37 :: L)) rfl fsz45 rfl rfl rfl rfl rfl (Nat.le_of_ble_eq_true rfl) rfl rfl ?_)
 refine TL.nil ?_
 refine TQ.then_ ?_
 refine TC.seq ?_
 refine TC.region ?_
 refine TL.cons (TO.val rfl rfl rfl (Val.loadsB 0 (cs := [.int .i64 0, .slice (some ⟨b2, 0, none⟩) 1 1]) agg45 fsz45 rfl rfl rfl rfl) ?_)
 refine TL.cons (TL.buildSlice (xs := [.tmp 14]) (vs := [.agg #[.int .i64 0, .slice (some ⟨b2, 0, none⟩) 1 1]]) (cs := [.int .i64 0, .slice (some ⟨b2, 0, none⟩) 1 1]) rfl rfl Try.underlying22 zs45 rfl rfl rfl rfl rfl rfl rfl rfl (fun b4 => ?_))
 refine TK.new (Els.nil k37) ?_
 refine TK.new (Row.nil (Kd.int .i64) 3) ?_
 refine TK.conv (ch' := El k37 (⟨1, 1, 0, 0, 4, ([] : List Int)⟩ : S37) [.int .i64 1, .int .i64 1, .int .i64 0, .int .i64 0, .int .i64 4, .slice none 0 0]) (fun B W F hh => k37_mkM W B F (⟨1, 1, 0, 0, 4, ([] : List Int)⟩ : S37) hh) ?_
 refine TK.sel (Ls := [Els k37 [] [], El k37 (⟨1, 1, 0, 0, 4, ([] : List Int)⟩ : S37) [.int .i64 1, .int .i64 1, .int .i64 0, .int .i64 0, .int .i64 4, .slice none 0 0], Blk b4 [.int .i64 0, .slice (some ⟨b2, 0, none⟩) 1 1] 45, Blk b3 [.int .i64 0, .slice (some ⟨b2, 0, none⟩) 1 1] 45, Blk b2 [.slice (some ⟨b1, 0, none⟩) 2 2, .int .i64 3, .int .i64 1, .int .i64 0, .int .i64 0] 42, Blk b1 [.int .i64 1, .int .i64 1, .int .i64 0, .int .i64 0, .int .i64 4, .slice none 0 0, .int .i64 9, .int .i64 0, .int .i64 1, .int .i64 0, .int .i64 0, .slice none 0 0] 37]) [1, 0, 2, 3, 4, 5] 6 rfl rfl rfl ?_
 refine TK.two (ch := Els k37 [(⟨1, 1, 0, 0, 4, ([] : List Int)⟩ : S37)] [.int .i64 1, .int .i64 1, .int .i64 0, .int .i64 0, .int .i64 4, .slice none 0 0]) (Els.snoc k37) ?_
 refine TK.new (Row.nil (Kd.int .i64) 3) ?_
 refine TK.conv (ch' := El k37 (⟨9, 0, 1, 0, 0, ([] : List Int)⟩ : S37) [.int .i64 9, .int .i64 0, .int .i64 1, .int .i64 0, .int .i64 0, .slice none 0 0]) (fun B W F hh => k37_mkM W B F (⟨9, 0, 1, 0, 0, ([] : List Int)⟩ : S37) hh) ?_
 refine TK.sel (Ls := [Els k37 [(⟨1, 1, 0, 0, 4, ([] : List Int)⟩ : S37)] [.int .i64 1, .int .i64 1, .int .i64 0, .int .i64 0, .int .i64 4, .slice none 0 0], El k37 (⟨9, 0, 1, 0, 0, ([] : List Int)⟩ : S37) [.int .i64 9, .int .i64 0, .int .i64 1, .int .i64 0, .int .i64 0, .slice none 0 0], Blk b4 [.int .i64 0, .slice (some ⟨b2, 0, none⟩) 1 1] 45, Blk b3 [.int .i64 0, .slice (some ⟨b2, 0, none⟩) 1 1] 45, Blk b2 [.slice (some ⟨b1, 0, none⟩) 2 2, .int .i64 3, .int .i64 1, .int .i64 0, .int .i64 0] 42, Blk b1 [.int .i64 1, .int .i64 1, .int .i64 0, .int .i64 0, .int .i64 4, .slice none 0 0, .int .i64 9, .int .i64 0, .int .i64 1, .int .i64 0, .int .i64 0, .slice none 0 0] 37]) [1, 0, 2, 3, 4, 5] 6 rfl rfl rfl ?_
 refine TK.two (ch := Els k37 [(⟨1, 1, 0, 0, 4, ([] : List Int)⟩ : S37), (⟨9, 0, 1, 0, 0, ([] : List Int)⟩ : S37)] [.int .i64 1, .int .i64 1, .int .i64 0, .int .i64 0, .int .i64 4, .slice none 0 0, .int .i64 9, .int .i64 0, .int .i64 1, .int .i64 0, .int .i64 0, .slice none 0 0]) (Els.snoc k37) ?_
 refine TK.sel (Ls := [Blk b1 [.int .i64 1, .int .i64 1, .int .i64 0, .int .i64 0, .int .i64 4, .slice none 0 0, .int .i64 9, .int .i64 0, .int .i64 1, .int .i64 0, .int .i64 0, .slice none 0 0] 37, Els k37 [(⟨1, 1, 0, 0, 4, ([] : List Int)⟩ : S37), (⟨9, 0, 1, 0, 0, ([] : List Int)⟩ : S37)] [.int .i64 1, .int .i64 1, .int .i64 0, .int .i64 0, .int .i64 4, .slice none 0 0, .int .i64 9, .int .i64 0, .int .i64 1, .int .i64 0, .int .i64 0, .slice none 0 0], Blk b4 [.int .i64 0, .slice (some ⟨b2, 0, none⟩) 1 1] 45, Blk b3 [.int .i64 0, .slice (some ⟨b2, 0, none⟩) 1 1] 45, Blk b2 [.slice (some ⟨b1, 0, none⟩) 2 2, .int .i64 3, .int .i64 1, .int .i64 0, .int .i64 0] 42]) [4, 0, 1, 2, 3] 5 rfl rfl rfl ?_
 refine TK.two (ch := Row k37 37 (.slice (some ⟨b1, 0, none⟩) 2 2) ([(⟨1, 1, 0, 0, 4, ([] : List Int)⟩ : S37), (⟨9, 0, 1, 0, 0, ([] : List Int)⟩ : S37)] : List S37)) (Row.lit k37 rfl rfl) ?_
 refine TK.share (fun G8 e9 hs10 _ => ?_)
 have rd11 : Rd G8 k37 (some ⟨b1, 0, none⟩) ([(⟨1, 1, 0, 0, 4, ([] : List Int)⟩ : S37), (⟨9, 0, 1, 0, 0, ([] : List Int)⟩ : S37)] : List S37) := Rd.row hs10
 have le12 : ([(⟨1, 1, 0, 0, 4, ([] : List Int)⟩ : S37), (⟨9, 0, 1, 0, 0, ([] : List Int)⟩ : S37)] : List S37).length ≤ 2 := Row.le hs10
 refine TK.new (Els.nil (Sh G8 k42)) ?_
 refine TK.new (El.of (k := (Sh G8 k42)) (xv := (⟨([(⟨1, 1, 0, 0, 4, ([] : List Int)⟩ : S37), (⟨9, 0, 1, 0, 0, ([] : List Int)⟩ : S37)] : List S37), (⟨3, 1, 0, 0⟩ : S40)⟩ : S42)) (cs := [.slice (some ⟨b1, 0, none⟩) 2 2, .int .i64 3, .int .i64 1, .int .i64 0, .int .i64 0]) (fun W B => Sh.mk (fun W hW => k42_mk W (⟨([(⟨1, 1, 0, 0, 4, ([] : List Int)⟩ : S37), (⟨9, 0, 1, 0, 0, ([] : List Int)⟩ : S37)] : List S37), (⟨3, 1, 0, 0⟩ : S40)⟩ : S42) le12 (rd11 W hW)) W B _)) ?_
 refine TK.sel (Ls := [Els (Sh G8 k42) [] [], El (Sh G8 k42) (⟨([(⟨1, 1, 0, 0, 4, ([] : List Int)⟩ : S37), (⟨9, 0, 1, 0, 0, ([] : List Int)⟩ : S37)] : List S37), (⟨3, 1, 0, 0⟩ : S40)⟩ : S42) [.slice (some ⟨b1, 0, none⟩) 2 2, .int .i64 3, .int .i64 1, .int .i64 0, .int .i64 0], Blk b4 [.int .i64 0, .slice (some ⟨b2, 0, none⟩) 1 1] 45, Blk b3 [.int .i64 0, .slice (some ⟨b2, 0, none⟩) 1 1] 45, Blk b2 [.slice (some ⟨b1, 0, none⟩) 2 2, .int .i64 3, .int .i64 1, .int .i64 0, .int .i64 0] 42]) [1, 0, 2, 3, 4] 5 rfl rfl rfl ?_
 refine TK.two (ch := Els (Sh G8 k42) [(⟨([(⟨1, 1, 0, 0, 4, ([] : List Int)⟩ : S37), (⟨9, 0, 1, 0, 0, ([] : List Int)⟩ : S37)] : List S37), (⟨3, 1, 0, 0⟩ : S40)⟩ : S42)] [.slice (some ⟨b1, 0, none⟩) 2 2, .int .i64 3, .int .i64 1, .int .i64 0, .int .i64 0]) (Els.snoc (Sh G8 k42)) ?_
 refine TK.sel (Ls := [Blk b2 [.slice (some ⟨b1, 0, none⟩) 2 2, .int .i64 3, .int .i64 1, .int .i64 0, .int .i64 0] 42, Els (Sh G8 k42) [(⟨([(⟨1, 1, 0, 0, 4, ([] : List Int)⟩ : S37), (⟨9, 0, 1, 0, 0, ([] : List Int)⟩ : S37)] : List S37), (⟨3, 1, 0, 0⟩ : S40)⟩ : S42)] [.slice (some ⟨b1, 0, none⟩) 2 2, .int .i64 3, .int .i64 1, .int .i64 0, .int .i64 0], Blk b4 [.int .i64 0, .slice (some ⟨b2, 0, none⟩) 1 1] 45, Blk b3 [.int .i64 0, .slice (some ⟨b2, 0, none⟩) 1 1] 45]) [3, 0, 1, 2] 4 rfl rfl rfl ?_
 refine TK.two (ch := Row (Sh G8 k42) 42 (.slice (some ⟨b2, 0, none⟩) 1 1) ([(⟨([(⟨1, 1, 0, 0, 4, ([] : List Int)⟩ : S37), (⟨9, 0, 1, 0, 0, ([] : List Int)⟩ : S37)] : List S37), (⟨3, 1, 0, 0⟩ : S40)⟩ : S42)] : List S42)) (Row.lit (Sh G8 k42) rfl rfl) ?_
 refine TK.share (fun G14 e15 hs16 _ => ?_)
 have rd17 : Rd G14 k42 (some ⟨b2, 0, none⟩) ([(⟨([(⟨1, 1, 0, 0, 4, ([] : List Int)⟩ : S37), (⟨9, 0, 1, 0, 0, ([] : List Int)⟩ : S37)] : List S37), (⟨3, 1, 0, 0⟩ : S40)⟩ : S42)] : List S42) := Rd.unsh (Rd.row hs16) e15
 have le18 : ([(⟨([(⟨1, 1, 0, 0, 4, ([] : List Int)⟩ : S37), (⟨9, 0, 1, 0, 0, ([] : List Int)⟩ : S37)] : List S37), (⟨3, 1, 0, 0⟩ : S40)⟩ : S42)] : List S42).length ≤ 1 := Row.le hs16
 refine TK.new (Els.nil (Sh G14 k45)) ?_
 refine TK.new (El.of (k := (Sh G14 k45)) (xv := (⟨0, ([(⟨([(⟨1, 1, 0, 0, 4, ([] : List Int)⟩ : S37), (⟨9, 0, 1, 0, 0, ([] : List Int)⟩ : S37)] : List S37), (⟨3, 1, 0, 0⟩ : S40)⟩ : S42)] : List S42)⟩ : S45)) (cs := [.int .i64 0, .slice (some ⟨b2, 0, none⟩) 1 1]) (fun W B => Sh.mk (fun W hW => k45_mk W (⟨0, ([(⟨([(⟨1, 1, 0, 0, 4, ([] : List Int)⟩ : S37), (⟨9, 0, 1, 0, 0, ([] : List Int)⟩ : S37)] : List S37), (⟨3, 1, 0, 0⟩ : S40)⟩ : S42)] : List S42)⟩ : S45) le18 (rd17 W hW)) W B _)) ?_
 refine TK.sel (Ls := [Els (Sh G14 k45) [] [], El (Sh G14 k45) (⟨0, ([(⟨([(⟨1, 1, 0, 0, 4, ([] : List Int)⟩ : S37), (⟨9, 0, 1, 0, 0, ([] : List Int)⟩ : S37)] : List S37), (⟨3, 1, 0, 0⟩ : S40)⟩ : S42)] : List S42)⟩ : S45) [.int .i64 0, .slice (some ⟨b2, 0, none⟩) 1 1], Blk b4 [.int .i64 0, .slice (some ⟨b2, 0, none⟩) 1 1] 45, Blk b3 [.int .i64 0, .slice (some ⟨b2, 0, none⟩) 1 1] 45]) [1, 0, 2, 3] 4 rfl rfl rfl ?_
 refine TK.two (ch := Els (Sh G14 k45) [(⟨0, ([(⟨([(⟨1, 1, 0, 0, 4, ([] : List Int)⟩ : S37), (⟨9, 0, 1, 0, 0, ([] : List Int)⟩ : S37)] : List S37), (⟨3, 1, 0, 0⟩ : S40)⟩ : S42)] : List S42)⟩ : S45)] [.int .i64 0, .slice (some ⟨b2, 0, none⟩) 1 1]) (Els.snoc (Sh G14 k45)) ?_
 refine TK.sel (Ls := [Blk b4 [.int .i64 0, .slice (some ⟨b2, 0, none⟩) 1 1] 45, Els (Sh G14 k45) [(⟨0, ([(⟨([(⟨1, 1, 0, 0, 4, ([] : List Int)⟩ : S37), (⟨9, 0, 1, 0, 0, ([] : List Int)⟩ : S37)] : List S37), (⟨3, 1, 0, 0⟩ : S40)⟩ : S42)] : List S42)⟩ : S45)] [.int .i64 0, .slice (some ⟨b2, 0, none⟩) 1 1], Blk b3 [.int .i64 0, .slice (some ⟨b2, 0, none⟩) 1 1] 45]) [1, 0, 2] 3 rfl rfl rfl ?_
 refine TK.two (ch := Row (Sh G14 k45) 45 (.slice (some ⟨b4, 0, none⟩) 1 1) ([(⟨0, ([(⟨([(⟨1, 1, 0, 0, 4, ([] : List Int)⟩ : S37), (⟨9, 0, 1, 0, 0, ([] : List Int)⟩ : S37)] : List S37), (⟨3, 1, 0, 0⟩ : S40)⟩ : S42)] : List S42)⟩ : S45)] : List S45)) (Row.lit (Sh G14 k45) rfl rfl) ?_
 refine TK.share (fun G20 e21 hs22 _ => ?_)
 have rd23 : Rd G20 k45 (some ⟨b4, 0, none⟩) ([(⟨0, ([(⟨([(⟨1, 1, 0, 0, 4, ([] : List Int)⟩ : S37), (⟨9, 0, 1, 0, 0, ([] : List Int)⟩ : S37)] : List S37), (⟨3, 1, 0, 0⟩ : S40)⟩ : S42)] : List S42)⟩ : S45)] : List S45) := Rd.unsh (Rd.row hs22) e21
 have le24 : ([(⟨0, ([(⟨([(⟨1, 1, 0, 0, 4, ([] : List Int)⟩ : S37), (⟨9, 0, 1, 0, 0, ([] : List Int)⟩ : S37)] : List S37), (⟨3, 1, 0, 0⟩ : S40)⟩ : S42)] : List S42)⟩ : S45)] : List S45).length ≤ 1 := Row.le hs22
 obtain ⟨y25, hy26, h⟩ := bind_no h
 refine TL.cons (TL.callV (Lin := []) (args := [.slice (some ⟨b4, 0, none⟩) 1 1, .int .i64 10, .slice none 0 0, .int .i64 9]) rfl rfl rfl hbd11 rfl rfl (trace_Run.calls (a0 := ([(⟨0, ([(⟨([(⟨1, 1, 0, 0, 4, ([] : List Int)⟩ : S37), (⟨9, 0, 1, 0, 0, ([] : List Int)⟩ : S37)] : List S37), (⟨3, 1, 0, 0⟩ : S40)⟩ : S42)] : List S42)⟩ : S45)] : List S45)) (a1 := 10) (a2 := ([] : List Int)) (a3 := 9) rd23 le24 (Rd.nil _ _) (Nat.le_refl 0) hy26) rfl ?_)
 rintro _ _ _ _ ⟨rfl, A27, c28, rfl, rfl⟩
 refine TL.cons (TO.val rfl rfl rfl (Val.move rfl) ?_)
 refine TL.cons (TO.val rfl rfl rfl (Val.extract rfl rfl) ?_)
 refine TL.cons (TO.val rfl rfl rfl (Val.extract rfl rfl) ?_)
 refine TL.cons (TL.alloc (cs := [.slice none 0 0, .int .i64 0, .int .i64 0, .int .i64 0, .int .i64 0]) rfl rfl zr28 rfl (fun b30 => ?_))
 refine TL.cons (TL.store 0 (ds := [.slice A27 y25.1.f0.length c28, .int .i64 y25.1.f1, .int .i64 y25.1.f2, .int .i64 y25.1.f3, .int .i64 y25.1.f4]) (cs' := [.slice A27 y25.1.f0.length c28, .int .i64 y25.1.f1, .int .i64 y25.1.f2, .int .i64 y25.1.f3, .int .i64 y25.1.f4]) (L' := (Blk b30 [.slice A27 y25.1.f0.length c28, .int .i64 y25.1.f1, .int .i64 y25.1.f2, .int .i64 y25.1.f3, .int .i64 y25.1.f4] 28 :: Row (Kd.int .i64) 3 (.slice A27 y25.1.f0.length c28) y25.1.f0 :: Blk b3 [.int .i64 0, .slice (some ⟨b2, 0, none⟩) 1 1] 45 :: L)) rfl fsz28 rfl rfl rfl rfl rfl (Nat.le_of_ble_eq_true rfl) rfl rfl ?_)
 refine TL.cons (TO.val rfl rfl rfl (Val.assign rfl) ?_)
 refine TL.nil ?_
 refine TQ.then_ ?_
 refine TC.seq ?_
 refine TC.region ?_
 refine TL.cons (TO.val rfl rfl rfl (Val.loadsB 2 (cs := [.int .i64 0, .slice (some ⟨b2, 0, none⟩) 1 1]) agg45 fsz45 rfl rfl rfl rfl) ?_)
 refine TL.cons (TL.buildSlice (xs := [.tmp 20]) (vs := [.agg #[.int .i64 0, .slice (some ⟨b2, 0, none⟩) 1 1]]) (cs := [.int .i64 0, .slice (some ⟨b2, 0, none⟩) 1 1]) rfl rfl Try.underlying22 zs45 rfl rfl rfl rfl rfl rfl rfl rfl (fun b31 => ?_))
 refine TK.new (Els.nil (Sh G20 k45)) ?_
 refine TK.new (El.of (k := (Sh G20 k45)) (xv := (⟨0, ([(⟨([(⟨1, 1, 0, 0, 4, ([] : List Int)⟩ : S37), (⟨9, 0, 1, 0, 0, ([] : List Int)⟩ : S37)] : List S37), (⟨3, 1, 0, 0⟩ : S40)⟩ : S42)] : List S42)⟩ : S45)) (cs := [.int .i64 0, .slice (some ⟨b2, 0, none⟩) 1 1]) (fun W B => Sh.mk (fun W hW => k45_mk W (⟨0, ([(⟨([(⟨1, 1, 0, 0, 4, ([] : List Int)⟩ : S37), (⟨9, 0, 1, 0, 0, ([] : List Int)⟩ : S37)] : List S37), (⟨3, 1, 0, 0⟩ : S40)⟩ : S42)] : List S42)⟩ : S45) le18 ((rd17.up e21) W hW)) W B _)) ?_
 refine TK.sel (Ls := [Els (Sh G20 k45) [] [], El (Sh G20 k45) (⟨0, ([(⟨([(⟨1, 1, 0, 0, 4, ([] : List Int)⟩ : S37), (⟨9, 0, 1, 0, 0, ([] : List Int)⟩ : S37)] : List S37), (⟨3, 1, 0, 0⟩ : S40)⟩ : S42)] : List S42)⟩ : S45) [.int .i64 0, .slice (some ⟨b2, 0, none⟩) 1 1], Blk b31 [.int .i64 0, .slice (some ⟨b2, 0, none⟩) 1 1] 45, Blk b30 [.slice A27 y25.1.f0.length c28, .int .i64 y25.1.f1, .int .i64 y25.1.f2, .int .i64 y25.1.f3, .int .i64 y25.1.f4] 28, Row (Kd.int .i64) 3 (.slice A27 y25.1.f0.length c28) y25.1.f0, Blk b3 [.int .i64 0, .slice (some ⟨b2, 0, none⟩) 1 1] 45]) [1, 0, 2, 3, 4, 5] 6 rfl rfl rfl ?_
 refine TK.two (ch := Els (Sh G20 k45) [(⟨0, ([(⟨([(⟨1, 1, 0, 0, 4, ([] : List Int)⟩ : S37), (⟨9, 0, 1, 0, 0, ([] : List Int)⟩ : S37)] : List S37), (⟨3, 1, 0, 0⟩ : S40)⟩ : S42)] : List S42)⟩ : S45)] [.int .i64 0, .slice (some ⟨b2, 0, none⟩) 1 1]) (Els.snoc (Sh G20 k45)) ?_
 refine TK.sel (Ls := [Blk b31 [.int .i64 0, .slice (some ⟨b2, 0, none⟩) 1 1] 45, Els (Sh G20 k45) [(⟨0, ([(⟨([(⟨1, 1, 0, 0, 4, ([] : List Int)⟩ : S37), (⟨9, 0, 1, 0, 0, ([] : List Int)⟩ : S37)] : List S37), (⟨3, 1, 0, 0⟩ : S40)⟩ : S42)] : List S42)⟩ : S45)] [.int .i64 0, .slice (some ⟨b2, 0, none⟩) 1 1], Blk b30 [.slice A27 y25.1.f0.length c28, .int .i64 y25.1.f1, .int .i64 y25.1.f2, .int .i64 y25.1.f3, .int .i64 y25.1.f4] 28, Row (Kd.int .i64) 3 (.slice A27 y25.1.f0.length c28) y25.1.f0, Blk b3 [.int .i64 0, .slice (some ⟨b2, 0, none⟩) 1 1] 45]) [1, 0, 2, 3, 4] 5 rfl rfl rfl ?_
 refine TK.two (ch := Row (Sh G20 k45) 45 (.slice (some ⟨b31, 0, none⟩) 1 1) ([(⟨0, ([(⟨([(⟨1, 1, 0, 0, 4, ([] : List Int)⟩ : S37), (⟨9, 0, 1, 0, 0, ([] : List Int)⟩ : S37)] : List S37), (⟨3, 1, 0, 0⟩ : S40)⟩ : S42)] : List S42)⟩ : S45)] : List S45)) (Row.lit (Sh G20 k45) rfl rfl) ?_
 refine TK.share (fun G33 e34 hs35 _ => ?_)
 have rd36 : Rd G33 k45 (some ⟨b31, 0, none⟩) ([(⟨0, ([(⟨([(⟨1, 1, 0, 0, 4, ([] : List Int)⟩ : S37), (⟨9, 0, 1, 0, 0, ([] : List Int)⟩ : S37)] : List S37), (⟨3, 1, 0, 0⟩ : S40)⟩ : S42)] : List S42)⟩ : S45)] : List S45) := Rd.unsh (Rd.row hs35) e34
 have le37 : ([(⟨0, ([(⟨([(⟨1, 1, 0, 0, 4, ([] : List Int)⟩ : S37), (⟨9, 0, 1, 0, 0, ([] : List Int)⟩ : S37)] : List S37), (⟨3, 1, 0, 0⟩ : S40)⟩ : S42)] : List S42)⟩ : S45)] : List S45).length ≤ 1 := Row.le hs35
 obtain ⟨y38, hy39, h⟩ := bind_no h
 refine TL.cons (TL.callV (Lin := []) (args := [.slice (some ⟨b31, 0, none⟩) 1 1, .int .i64 10, .slice none 0 0, .int .i64 2]) rfl rfl rfl hbd11 rfl rfl (trace_Run.calls (a0 := ([(⟨0, ([(⟨([(⟨1, 1, 0, 0, 4, ([] : List Int)⟩ : S37), (⟨9, 0, 1, 0, 0, ([] : List Int)⟩ : S37)] : List S37), (⟨3, 1, 0, 0⟩ : S40)⟩ : S42)] : List S42)⟩ : S45)] : List S45)) (a1 := 10) (a2 := ([] : List Int)) (a3 := 2) rd36 le37 (Rd.nil _ _) (Nat.le_refl 0) hy39) rfl ?_)
 rintro _ _ _ _ ⟨rfl, A40, c41, rfl, rfl⟩
 refine TL.cons (TO.val rfl rfl rfl (Val.move rfl) ?_)
 refine TL.cons (TO.val rfl rfl rfl (Val.extract rfl rfl) ?_)
 refine TL.cons (TO.val rfl rfl rfl (Val.extract rfl rfl) ?_)
 refine TL.cons (TL.alloc (cs := [.slice none 0 0, .int .i64 0, .int .i64 0, .int .i64 0, .int .i64 0]) rfl rfl zr28 rfl (fun b43 => ?_))
 refine TL.cons (TL.store 0 (ds := [.slice A40 y38.1.f0.length c41, .int .i64 y38.1.f1, .int .i64 y38.1.f2, .int .i64 y38.1.f3, .int .i64 y38.1.f4]) (cs' := [.slice A40 y38.1.f0.length c41, .int .i64 y38.1.f1, .int .i64 y38.1.f2, .int .i64 y38.1.f3, .int .i64 y38.1.f4]) (L' := (Blk b43 [.slice A40 y38.1.f0.length c41, .int .i64 y38.1.f1, .int .i64 y38.1.f2, .int .i64 y38.1.f3, .int .i64 y38.1.f4] 28 :: Row (Kd.int .i64) 3 (.slice A40 y38.1.f0.length c41) y38.1.f0 :: Blk b30 [.slice A27 y25.1.f0.length c28, .int .i64 y25.1.f1, .int .i64 y25.1.f2, .int .i64 y25.1.f3, .int .i64 y25.1.f4] 28 :: Row (Kd.int .i64) 3 (.slice A27 y25.1.f0.length c28) y25.1.f0 :: Blk b3 [.int .i64 0, .slice (some ⟨b2, 0, none⟩) 1 1] 45 :: L)) rfl fsz28 rfl rfl rfl rfl rfl (Nat.le_of_ble_eq_true rfl) rfl rfl ?_)
 refine TL.cons (TO.val rfl rfl rfl (Val.assign rfl) ?_)
 refine TL.nil ?_
 refine TQ.then_ ?_
 refine TC.seq ?_
 refine TC.region ?_
 refine TL.cons (TO.val rfl rfl rfl (Val.move rfl) ?_)
 refine TL.cons (TO.val rfl rfl rfl (Val.cmp rfl rfl run_eql) ?_)
 refine TL.cons (TO.val rfl rfl rfl (Val.move rfl) ?_)
 refine TK.split (p := y25.2 = 0) h (fun hg85 h => ?_) (fun hg85 h => ?_)
 ·
  have hk86 : decide (y25.2 = 0) = true := decide_eq_true hg85
  refine TL.cons (TO.val (Wt.yes rfl rfl rfl hk86) rfl rfl (Val.fieldAddrB Try.underlying28 rfl fsz26 rfl rfl rfl) ?_)
  refine TL.cons (TO.val (Wt.yes rfl rfl rfl hk86) rfl rfl (Val.loadB 2 agg26 rfl rfl rfl) ?_)
  refine TL.cons (TO.val (Wt.yes rfl rfl rfl hk86) rfl rfl (Val.cmp rfl rfl run_eql) ?_)
  refine TL.cons (TO.val rfl rfl rfl (Val.pickY rfl hk86 rfl) ?_)
  refine TL.cons (TO.val rfl rfl rfl (Val.move rfl) ?_)
  refine TK.split (p := y25.1.f1 = 0) h (fun hg87 h => ?_) (fun hg87 h => ?_)
  ·
   have hk88 : decide (y25.1.f1 = 0) = true := decide_eq_true hg87
   refine TL.cons (TO.val (Wt.yes rfl rfl rfl hk88) rfl rfl (Val.fieldAddrB Try.underlying28 rfl fsz23 rfl rfl rfl) ?_)
   refine TL.cons (TO.val (Wt.yes rfl rfl rfl hk88) rfl rfl (Val.loadB 2 agg23 rfl rfl rfl) ?_)
   refine TL.cons (TL.buildSlice (xs := [.const (.int .i64 4)]) (vs := [.int .i64 4]) (cs := [.int .i64 4]) (Wt.yes rfl rfl rfl hk88) rfl Try.underlying23 zs3 rfl rfl rfl rfl rfl rfl rfl rfl (fun b89 => ?_))
   refine TK.sel (Ls := [Row (Kd.int .i64) 3 (.slice A27 y25.1.f0.length c28) y25.1.f0, Blk b89 [.int .i64 4] 3, Blk b43 [.slice A40 y38.1.f0.length c41, .int .i64 y38.1.f1, .int .i64 y38.1.f2, .int .i64 y38.1.f3, .int .i64 y38.1.f4] 28, Row (Kd.int .i64) 3 (.slice A40 y38.1.f0.length c41) y38.1.f0, Blk b30 [.slice A27 y25.1.f0.length c28, .int .i64 y25.1.f1, .int .i64 y25.1.f2, .int .i64 y25.1.f3, .int .i64 y25.1.f4] 28, Blk b3 [.int .i64 0, .slice (some ⟨b2, 0, none⟩) 1 1] 45]) [4, 0, 1, 2, 3, 5] 6 rfl rfl rfl ?_
   refine TK.share (fun G90 e91 hs92 _ => ?_)
   have rd93 : Rd G90 (Kd.int .i64) A27 y25.1.f0 := Rd.row hs92
   have le94 : y25.1.f0.length ≤ c28 := Row.le hs92
   refine TK.new (Els.nil (Kd.int .i64)) ?_
   refine TK.new (El.of (k := (Kd.int .i64)) (xv := 4) (cs := [.int .i64 4]) (fun W B => rfl)) ?_
   refine TK.sel (Ls := [Els (Kd.int .i64) [] [], El (Kd.int .i64) 4 [.int .i64 4], Blk b89 [.int .i64 4] 3, Blk b43 [.slice A40 y38.1.f0.length c41, .int .i64 y38.1.f1, .int .i64 y38.1.f2, .int .i64 y38.1.f3, .int .i64 y38.1.f4] 28, Row (Kd.int .i64) 3 (.slice A40 y38.1.f0.length c41) y38.1.f0, Blk b30 [.slice A27 y25.1.f0.length c28, .int .i64 y25.1.f1, .int .i64 y25.1.f2, .int .i64 y25.1.f3, .int .i64 y25.1.f4] 28, Blk b3 [.int .i64 0, .slice (some ⟨b2, 0, none⟩) 1 1] 45]) [1, 0, 2, 3, 4, 5, 6] 7 rfl rfl rfl ?_
   refine TK.two (ch := Els (Kd.int .i64) [4] [.int .i64 4]) (Els.snoc (Kd.int .i64)) ?_
   refine TK.sel (Ls := [Blk b89 [.int .i64 4] 3, Els (Kd.int .i64) [4] [.int .i64 4], Blk b43 [.slice A40 y38.1.f0.length c41, .int .i64 y38.1.f1, .int .i64 y38.1.f2, .int .i64 y38.1.f3, .int .i64 y38.1.f4] 28, Row (Kd.int .i64) 3 (.slice A40 y38.1.f0.length c41) y38.1.f0, Blk b30 [.slice A27 y25.1.f0.length c28, .int .i64 y25.1.f1, .int .i64 y25.1.f2, .int .i64 y25.1.f3, .int .i64 y25.1.f4] 28, Blk b3 [.int .i64 0, .slice (some ⟨b2, 0, none⟩) 1 1] 45]) [1, 0, 2, 3, 4, 5] 6 rfl rfl rfl ?_
   refine TK.two (ch := Row (Kd.int .i64) 3 (.slice (some ⟨b89, 0, none⟩) 1 1) ([4] : List Int)) (Row.lit (Kd.int .i64) rfl rfl) ?_
   refine TK.share (fun G96 e97 hs98 _ => ?_)
   have rd99 : Rd G96 (Kd.int .i64) (some ⟨b89, 0, none⟩) ([4] : List Int) := Rd.row hs98
   have le100 : ([4] : List Int).length ≤ 1 := Row.le hs98
   obtain ⟨y101, hy102, h⟩ := bind_no h
   refine TL.cons (TL.callV (Lin := []) (args := [.slice A27 y25.1.f0.length c28, .slice (some ⟨b89, 0, none⟩) 1 1]) (Wt.yes rfl rfl rfl hk88) rfl rfl hbd14 rfl rfl (swageref02_Ints.calls (a0 := y25.1.f0) (a1 := ([4] : List Int)) (rd93.up e97) le94 rd99 le100 hy102) rfl ?_)
   rintro _ _ _ _ ⟨rfl, rfl, rfl⟩
   refine TL.cons (TO.val rfl rfl rfl (Val.pickY rfl hk88 rfl) ?_)
   refine TL.cons (TO.val rfl rfl rfl (Val.move rfl) ?_)
   refine TK.split (p := y101 = true) h (fun hg103 h => ?_) (fun hg103 h => ?_)
   ·
    have hk104 : y101 = true := hg103
    refine TL.cons (TO.val (Wt.yes rfl rfl rfl hk104) rfl rfl (Val.move rfl) ?_)
    refine TL.cons (TO.val (Wt.yes rfl rfl rfl hk104) rfl rfl (Val.cmp rfl rfl run_eql) ?_)
    refine TL.cons (TO.val rfl rfl rfl (Val.pickY rfl hk104 rfl) ?_)
    refine TL.cons (TO.val rfl rfl rfl (Val.move rfl) ?_)
    refine TK.split (p := y38.2 = 0) h (fun hg105 h => ?_) (fun hg105 h => ?_)
    ·
     have hk106 : decide (y38.2 = 0) = true := decide_eq_true hg105
     refine TL.cons (TO.val (Wt.yes rfl rfl rfl hk106) rfl rfl (Val.fieldAddrB Try.underlying28 rfl fsz26 rfl rfl rfl) ?_)
     refine TL.cons (TO.val (Wt.yes rfl rfl rfl hk106) rfl rfl (Val.loadB 0 agg26 rfl rfl rfl) ?_)
     refine TL.cons (TO.val (Wt.yes rfl rfl rfl hk106) rfl rfl (Val.cmp rfl rfl run_eql) ?_)
     refine TL.cons (TO.val rfl rfl rfl (Val.pickY rfl hk106 rfl) ?_)
     refine TL.cons (TO.val rfl rfl rfl (Val.move rfl) ?_)
     refine TK.split (p := y38.1.f1 = 12) h (fun hg107 h => ?_) (fun hg107 h => ?_)
     ·
      have hk108 : decide (y38.1.f1 = 12) = true := decide_eq_true hg107
      refine TL.cons (TO.val (Wt.yes rfl rfl rfl hk108) rfl rfl (Val.loadsB 0 (cs := [.slice A40 y38.1.f0.length c41, .int .i64 y38.1.f1, .int .i64 y38.1.f2, .int .i64 y38.1.f3, .int .i64 y38.1.f4]) agg28 fsz28 rfl rfl rfl rfl) ?_)
      refine TL.cons (TO.val (Wt.yes rfl rfl rfl hk108) rfl rfl (Val.loadsB 2 (cs := [.slice A27 y25.1.f0.length c28, .int .i64 y25.1.f1, .int .i64 y25.1.f2, .int .i64 y25.1.f3, .int .i64 y25.1.f4]) agg28 fsz28 rfl rfl rfl rfl) ?_)
      refine TK.sel (Ls := [Row (Kd.int .i64) 3 (.slice A40 y38.1.f0.length c41) y38.1.f0, Blk b43 [.slice A40 y38.1.f0.length c41, .int .i64 y38.1.f1, .int .i64 y38.1.f2, .int .i64 y38.1.f3, .int .i64 y38.1.f4] 28, Blk b30 [.slice A27 y25.1.f0.length c28, .int .i64 y25.1.f1, .int .i64 y25.1.f2, .int .i64 y25.1.f3, .int .i64 y25.1.f4] 28, Blk b3 [.int .i64 0, .slice (some ⟨b2, 0, none⟩) 1 1] 45]) [1, 0, 2, 3] 4 rfl rfl rfl ?_
      refine TK.share (fun G109 e110 hs111 _ => ?_)
      have rd112 : Rd G109 (Kd.int .i64) A40 y38.1.f0 := Rd.row hs111
      have le113 : y38.1.f0.length ≤ c41 := Row.le hs111
      obtain ⟨y114, hy115, h⟩ := bind_no h
      refine TL.cons (TL.callV (Lin := []) (args := [.agg #[.slice A40 y38.1.f0.length c41, .int .i64 y38.1.f1, .int .i64 y38.1.f2, .int .i64 y38.1.f3, .int .i64 y38.1.f4], .agg #[.slice A27 y25.1.f0.length c28, .int .i64 y25.1.f1, .int .i64 y25.1.f2, .int .i64 y25.1.f3, .int .i64 y25.1.f4]]) (Wt.yes rfl rfl rfl hk108) rfl rfl hbd15 rfl rfl (trace_Prefix.calls (a0 := y38.1) (a1 := y25.1) rd112 le113 (rd93.up (Gd.le.trans e97 e110)) le94 hy115) rfl ?_)
      rintro _ _ _ _ ⟨rfl, rfl, rfl⟩
      refine TL.cons (TO.val rfl rfl rfl (Val.pickY rfl hk108 rfl) ?_)
      refine TL.cons (TO.val rfl rfl rfl (Val.move rfl) ?_)
      refine TK.split (p := y114 = true) h (fun hg116 h => ?_) (fun hg116 h => ?_)
      ·
       have hk117 : y114 = true := hg116
       refine TL.cons (TO.val (Wt.yes rfl rfl rfl hk117) rfl rfl (Val.loadsB 1 (cs := [.slice A27 y25.1.f0.length c28, .int .i64 y25.1.f1, .int .i64 y25.1.f2, .int .i64 y25.1.f3, .int .i64 y25.1.f4]) agg28 fsz28 rfl rfl rfl rfl) ?_)
       refine TL.cons (TO.val (Wt.yes rfl rfl rfl hk117) rfl rfl (Val.loadsB 0 (cs := [.slice A40 y38.1.f0.length c41, .int .i64 y38.1.f1, .int .i64 y38.1.f2, .int .i64 y38.1.f3, .int .i64 y38.1.f4]) agg28 fsz28 rfl rfl rfl rfl) ?_)
       obtain ⟨y118, hy119, h⟩ := bind_no h
       refine TL.cons (TL.callV (Lin := []) (args := [.agg #[.slice A27 y25.1.f0.length c28, .int .i64 y25.1.f1, .int .i64 y25.1.f2, .int .i64 y25.1.f3, .int .i64 y25.1.f4], .agg #[.slice A40 y38.1.f0.length c41, .int .i64 y38.1.f1, .int .i64 y38.1.f2, .int .i64 y38.1.f3, .int .i64 y38.1.f4]]) (Wt.yes rfl rfl rfl hk117) rfl rfl hbd17 rfl rfl (trace_Same.calls (a0 := y25.1) (a1 := y38.1) (rd93.up (Gd.le.trans e97 e110)) le94 rd112 le113 hy119) rfl ?_)
       rintro _ _ _ _ ⟨rfl, rfl, rfl⟩
       refine TL.cons (TO.val (Wt.yes rfl rfl rfl hk117) rfl rfl (Val.not_ rfl) ?_)
       refine TL.cons (TO.val rfl rfl rfl (Val.pickY rfl hk117 rfl) ?_)
       refine TL.cons (TO.val rfl rfl rfl (Val.assign rfl) ?_)
       refine TL.nil ?_
       refine TQ.then_ ?_
       refine TC.ret ?_
       obtain rfl := Option.some.inj h
       exact TQ.fin (.inl rfl) rfl Try.results9 (.tmp rfl .nil) rfl (FRel.mk (Ls := []) [] 3 (Gd.le.trans (Gd.le.trans (Gd.le.trans (Gd.le.trans (Gd.le.trans (Gd.le.trans e9 e15) e21) e34) e91) e97) e110) rfl rfl rfl ⟨rfl, rfl⟩)
      ·
       have hk120 : y114 = false := (by simpa using hg116)
       refine TL.cons (TL.not (Wt.no rfl rfl rfl hk120) rfl ?_)
       refine TL.cons (TL.not (Wt.no rfl rfl rfl hk120) rfl ?_)
       refine TL.cons (TL.not (Wt.no rfl rfl rfl hk120) rfl ?_)
       refine TL.cons (TL.not (Wt.no rfl rfl rfl hk120) rfl ?_)
       refine TL.cons (TO.val rfl rfl rfl (Val.pickN rfl hk120 rfl) ?_)
       refine TL.cons (TO.val rfl rfl rfl (Val.assign rfl) ?_)
       refine TL.nil ?_
       refine TQ.then_ ?_
       refine TC.ret ?_
       obtain rfl := Option.some.inj h
       exact TQ.fin (.inl rfl) rfl Try.results9 (.tmp rfl .nil) rfl (FRel.mk (Ls := []) [] 3 (Gd.le.trans (Gd.le.trans (Gd.le.trans (Gd.le.trans (Gd.le.trans (Gd.le.trans e9 e15) e21) e34) e91) e97) e110) rfl rfl rfl ⟨rfl, rfl⟩)
     ·
      have hk121 : decide (y38.1.f1 = 12) = false := decide_eq_false hg107
      refine TL.cons (TL.not (Wt.no rfl rfl rfl hk121) rfl ?_)
      refine TL.cons (TL.not (Wt.no rfl rfl rfl hk121) rfl ?_)
      refine TL.cons (TL.not (Wt.no rfl rfl rfl hk121) rfl ?_)
      refine TL.cons (TO.val rfl rfl rfl (Val.pickN rfl hk121 rfl) ?_)
      refine TL.cons (TO.val rfl rfl rfl (Val.move rfl) ?_)
      refine TL.cons (TL.not (Wt.no rfl rfl rfl rfl) rfl ?_)
      refine TL.cons (TL.not (Wt.no rfl rfl rfl rfl) rfl ?_)
      refine TL.cons (TL.not (Wt.no rfl rfl rfl rfl) rfl ?_)
      refine TL.cons (TL.not (Wt.no rfl rfl rfl rfl) rfl ?_)
      refine TL.cons (TO.val rfl rfl rfl (Val.pickN rfl rfl rfl) ?_)
      refine TL.cons (TO.val rfl rfl rfl (Val.assign rfl) ?_)
      refine TL.nil ?_
      refine TQ.then_ ?_
      refine TC.ret ?_
      obtain rfl := Option.some.inj h
      exact TQ.fin (.inl rfl) rfl Try.results9 (.tmp rfl .nil) rfl (FRel.mk (Ls := []) [] 4 (Gd.le.trans (Gd.le.trans (Gd.le.trans (Gd.le.trans (Gd.le.trans e9 e15) e21) e34) e91) e97) rfl rfl rfl ⟨rfl, rfl⟩)
    ·
     have hk122 : decide (y38.2 = 0) = false := decide_eq_false hg105
     refine TL.cons (TL.not (Wt.no rfl rfl rfl hk122) rfl ?_)
     refine TL.cons (TL.not (Wt.no rfl rfl rfl hk122) rfl ?_)
     refine TL.cons (TL.not (Wt.no rfl rfl rfl hk122) rfl ?_)
     refine TL.cons (TO.val rfl rfl rfl (Val.pickN rfl hk122 rfl) ?_)
     refine TL.cons (TO.val rfl rfl rfl (Val.move rfl) ?_)
     refine TL.cons (TL.not (Wt.no rfl rfl rfl rfl) rfl ?_)
     refine TL.cons (TL.not (Wt.no rfl rfl rfl rfl) rfl ?_)
     refine TL.cons (TL.not (Wt.no rfl rfl rfl rfl) rfl ?_)
     refine TL.cons (TO.val rfl rfl rfl (Val.pickN rfl rfl rfl) ?_)
     refine TL.cons (TO.val rfl rfl rfl (Val.move rfl) ?_)
     refine TL.cons (TL.not (Wt.no rfl rfl rfl rfl) rfl ?_)
     refine TL.cons (TL.not (Wt.no rfl rfl rfl rfl) rfl ?_)
     refine TL.cons (TL.not (Wt.no rfl rfl rfl rfl) rfl ?_)
     refine TL.cons (TL.not (Wt.no rfl rfl rfl rfl) rfl ?_)
     refine TL.cons (TO.val rfl rfl rfl (Val.pickN rfl rfl rfl) ?_)
     refine TL.cons (TO.val rfl rfl rfl (Val.assign rfl) ?_)
     refine TL.nil ?_
     refine TQ.then_ ?_
     refine TC.ret ?_
     obtain rfl := Option.some.inj h
     exact TQ.fin (.inl rfl) rfl Try.results9 (.tmp rfl .nil) rfl (FRel.mk (Ls := []) [] 4 (Gd.le.trans (Gd.le.trans (Gd.le.trans (Gd.le.trans (Gd.le.trans e9 e15) e21) e34) e91) e97) rfl rfl rfl ⟨rfl, rfl⟩)
   ·
    have hk123 : y101 = false := (by simpa using hg103)
    refine TL.cons (TL.not (Wt.no rfl rfl rfl hk123) rfl ?_)
    refine TL.cons (TL.not (Wt.no rfl rfl rfl hk123) rfl ?_)
    refine TL.cons (TO.val rfl rfl rfl (Val.pickN rfl hk123 rfl) ?_)
    refine TL.cons (TO.val rfl rfl rfl (Val.move rfl) ?_)
    refine TL.cons (TL.not (Wt.no rfl rfl rfl rfl) rfl ?_)
    refine TL.cons (TL.not (Wt.no rfl rfl rfl rfl) rfl ?_)
    refine TL.cons (TL.not (Wt.no rfl rfl rfl rfl) rfl ?_)
    refine TL.cons (TO.val rfl rfl rfl (Val.pickN rfl rfl rfl) ?_)
    refine TL.cons (TO.val rfl rfl rfl (Val.move rfl) ?_)
    refine TL.cons (TL.not (Wt.no rfl rfl rfl rfl) rfl ?_)
    refine TL.cons (TL.not (Wt.no rfl rfl rfl rfl) rfl ?_)
    refine TL.cons (TL.not (Wt.no rfl rfl rfl rfl) rfl ?_)
    refine TL.cons (TO.val rfl rfl rfl (Val.pickN rfl rfl rfl) ?_)
    refine TL.cons (TO.val rfl rfl rfl (Val.move rfl) ?_)
    refine TL.cons (TL.not (Wt.no rfl rfl rfl rfl) rfl ?_)
    refine TL.cons (TL.not (Wt.no rfl rfl rfl rfl) rfl ?_)
    refine TL.cons (TL.not (Wt.no rfl rfl rfl rfl) rfl ?_)
    refine TL.cons (TL.not (Wt.no rfl rfl rfl rfl) rfl ?_)
    refine TL.cons (TO.val rfl rfl rfl (Val.pickN rfl rfl rfl) ?_)
    refine TL.cons (TO.val rfl rfl rfl (Val.assign rfl) ?_)
    refine TL.nil ?_
    refine TQ.then_ ?_
    refine TC.ret ?_
    obtain rfl := Option.some.inj h
    exact TQ.fin (.inl rfl) rfl Try.results9 (.tmp rfl .nil) rfl (FRel.mk (Ls := []) [] 4 (Gd.le.trans (Gd.le.trans (Gd.le.trans (Gd.le.trans (Gd.le.trans e9 e15) e21) e34) e91) e97) rfl rfl rfl ⟨rfl, rfl⟩)
  ·
   have hk124 : decide (y25.1.f1 = 0) = false := decide_eq_false hg87
   refine TL.cons (TL.not (Wt.no rfl rfl rfl hk124) rfl ?_)
   refine TL.cons (TL.not (Wt.no rfl rfl rfl hk124) rfl ?_)
   refine TL.cons (TL.not (Wt.no rfl rfl rfl hk124) rfl ?_)
   refine TL.cons (TL.not (Wt.no rfl rfl rfl hk124) rfl ?_)
   refine TL.cons (TO.val rfl rfl rfl (Val.pickN rfl hk124 rfl) ?_)
   refine TL.cons (TO.val rfl rfl rfl (Val.move rfl) ?_)
   refine TL.cons (TL.not (Wt.no rfl rfl rfl rfl) rfl ?_)
   refine TL.cons (TL.not (Wt.no rfl rfl rfl rfl) rfl ?_)
   refine TL.cons (TO.val rfl rfl rfl (Val.pickN rfl rfl rfl) ?_)
   refine TL.cons (TO.val rfl rfl rfl (Val.move rfl) ?_)
   refine TL.cons (TL.not (Wt.no rfl rfl rfl rfl) rfl ?_)
   refine TL.cons (TL.not (Wt.no rfl rfl rfl rfl) rfl ?_)
   refine TL.cons (TL.not (Wt.no rfl rfl rfl rfl) rfl ?_)
   refine TL.cons (TO.val rfl rfl rfl (Val.pickN rfl rfl rfl) ?_)
   refine TL.cons (TO.val rfl rfl rfl (Val.move rfl) ?_)
   refine TL.cons (TL.not (Wt.no rfl rfl rfl rfl) rfl ?_)
   refine TL.cons (TL.not (Wt.no rfl rfl rfl rfl) rfl ?_)
   refine TL.cons (TL.not (Wt.no rfl rfl rfl rfl) rfl ?_)
   refine TL.cons (TO.val rfl rfl rfl (Val.pickN rfl rfl rfl) ?_)
   refine TL.cons (TO.val rfl rfl rfl (Val.move rfl) ?_)
   refine TL.cons (TL.not (Wt.no rfl rfl rfl rfl) rfl ?_)
   refine TL.cons (TL.not (Wt.no rfl rfl rfl rfl) rfl ?_)
   refine TL.cons (TL.not (Wt.no rfl rfl rfl rfl) rfl ?_)
   refine TL.cons (TL.not (Wt.no rfl rfl rfl rfl) rfl ?_)
   refine TL.cons (TO.val rfl rfl rfl (Val.pickN rfl rfl rfl) ?_)
   refine TL.cons (TO.val rfl rfl rfl (Val.assign rfl) ?_)
   refine TL.nil ?_
   refine TQ.then_ ?_
   refine TC.ret ?_
   obtain rfl := Option.some.inj h
   exact TQ.fin (.inl rfl) rfl Try.results9 (.tmp rfl .nil) rfl (FRel.mk (Ls := []) [] 5 (Gd.le.trans (Gd.le.trans (Gd.le.trans e9 e15) e21) e34) rfl rfl rfl ⟨rfl, rfl⟩)
 ·
  have hk125 : decide (y25.2 = 0) = false := decide_eq_false hg85
  refine TL.cons (TL.not (Wt.no rfl rfl rfl hk125) rfl ?_)
  refine TL.cons (TL.not (Wt.no rfl rfl rfl hk125) rfl ?_)
  refine TL.cons (TL.not (Wt.no rfl rfl rfl hk125) rfl ?_)
  refine TL.cons (TO.val rfl rfl rfl (Val.pickN rfl hk125 rfl) ?_)
  refine TL.cons (TO.val rfl rfl rfl (Val.move rfl) ?_)
  refine TL.cons (TL.not (Wt.no rfl rfl rfl rfl) rfl ?_)
  refine TL.cons (TL.not (Wt.no rfl rfl rfl rfl) rfl ?_)
  refine TL.cons (TL.not (Wt.no rfl rfl rfl rfl) rfl ?_)
  refine TL.cons (TL.not (Wt.no rfl rfl rfl rfl) rfl ?_)
  refine TL.cons (TO.val rfl rfl rfl (Val.pickN rfl rfl rfl) ?_)
  refine TL.cons (TO.val rfl rfl rfl (Val.move rfl) ?_)
  refine TL.cons (TL.not (Wt.no rfl rfl rfl rfl) rfl ?_)
  refine TL.cons (TL.not (Wt.no rfl rfl rfl rfl) rfl ?_)
  refine TL.cons (TO.val rfl rfl rfl (Val.pickN rfl rfl rfl) ?_)
  refine TL.cons (TO.val rfl rfl rfl (Val.move rfl) ?_)
  refine TL.cons (TL.not (Wt.no rfl rfl rfl rfl) rfl ?_)
  refine TL.cons (TL.not (Wt.no rfl rfl rfl rfl) rfl ?_)
  refine TL.cons (TL.not (Wt.no rfl rfl rfl rfl) rfl ?_)
  refine TL.cons (TO.val rfl rfl rfl (Val.pickN rfl rfl rfl) ?_)
  refine TL.cons (TO.val rfl rfl rfl (Val.move rfl) ?_)
  refine TL.cons (TL.not (Wt.no rfl rfl rfl rfl) rfl ?_)
  refine TL.cons (TL.not (Wt.no rfl rfl rfl rfl) rfl ?_)
  refine TL.cons (TL.not (Wt.no rfl rfl rfl rfl) rfl ?_)
  refine TL.cons (TO.val rfl rfl rfl (Val.pickN rfl rfl rfl) ?_)
  refine TL.cons (TO.val rfl rfl rfl (Val.move rfl) ?_)
  refine TL.cons (TL.not (Wt.no rfl rfl rfl rfl) rfl ?_)
  refine TL.cons (TL.not (Wt.no rfl rfl rfl rfl) rfl ?_)
  refine TL.cons (TL.not (Wt.no rfl rfl rfl rfl) rfl ?_)
  refine TL.cons (TL.not (Wt.no rfl rfl rfl rfl) rfl ?_)
  refine TL.cons (TO.val rfl rfl rfl (Val.pickN rfl rfl rfl) ?_)
  refine TL.cons (TO.val rfl rfl rfl (Val.assign rfl) ?_)
  refine TL.nil ?_
  refine TQ.then_ ?_
  refine TC.ret ?_
  obtain rfl := Option.some.inj h
  exact TQ.fin (.inl rfl) rfl Try.results9 (.tmp rfl .nil) rfl (FRel.mk (Ls := []) [] 5 (Gd.le.trans (Gd.le.trans (Gd.le.trans e9 e15) e21) e34) rfl rfl rfl ⟨rfl, rfl⟩)
end Go.Proofs.Ytfmocegnpmomnaa.Sy
