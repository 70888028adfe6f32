/- Texts of this work, joined: SyF4, TrH, TrI. -/
import Derived.Test.YtfmocegnpmomnaaSyNTraceMored
set_option linter.unusedVariables false
set_option linter.unusedSimpArgs false
set_option maxRecDepth 100000
set_option maxHeartbeats 4000000
namespace Go.Proofs.Ytfmocegnpmomnaa.Sy
open Go Go.RowKit Go.Proofs.YtfmocegnpmomnaaW.PrintWords 
def swagelaw15_TraceMore.f (a0 : (List S45)) (a1 : Int) (a2 : (List Int)) (a3 : Int) (a4 : Int) : Option Bool := (swagelaw15_small.f).bind fun (y9 : Bool) => (swagelaw15_Few.f a0).bind fun (y13 : Bool) => jn (γ := Bool) (fun (x38 : Bool) => (if x38 = true then some y9 else (trace_Run.f a0 a1 a2 a3).bind fun (y42 : (S28 × Int)) => (trace_Run.f a0 a1 a2 (IntKind.i64.wrap (a3 + a4))).bind fun (y48 : (S28 × Int)) => (trace_Run.f a0 (IntKind.i64.wrap (a1 + a4)) a2 a3).bind fun (y54 : (S28 × Int)) => (if (!decide (y42.2 = 0)) = true then (if y9 = true then (if y42.2 = y48.2 then (if y48.2 = y54.2 then some (decide ((y42.1.f0.length : Int) = 0)) else some false) else some false) else some false) else jn (γ := Bool) (fun (x137 : Bool) => (if x137 = true then some false else jn (γ := Bool) (fun (x146 : Bool) => (if y9 = true then (if x146 = true then (if y42.1.f1 = 7 then some (decide (y42.1.f4 < a1)) else (trace_Prefix.f y42.1 y54.1).bind fun (y218 : Bool) => (if y218 = true then some (decide (y42.1.f4 < a1)) else some false)) else (trace_Same.f y42.1 y54.1).bind fun (y236 : Bool) => (if y236 = true then (if y42.1.f1 = 7 then some (decide (y42.1.f4 < a1)) else (trace_Prefix.f y42.1 y54.1).bind fun (y243 : Bool) => (if y243 = true then some (decide (y42.1.f4 < a1)) else some false)) else some false)) else some false)) (fun (j147 : (Bool → Option Bool)) => (if y42.1.f1 = 9 then j147 true else j147 (decide (y42.1.f1 = 7)))))) (fun (j138 : (Bool → Option Bool)) => (if (!decide (y48.2 = 0)) = true then j138 true else (if (!decide (y54.2 = 0)) = true then j138 true else (trace_Prefix.f y42.1 y48.1).bind fun (y271 : Bool) => (if (!y271) = true then j138 true else (if (!decide (y42.1.f1 = 12)) = true then (trace_Same.f y42.1 y48.1).bind fun (y278 : Bool) => (if (!y278) = true then j138 true else (if y48.1.f2 < y42.1.f2 then j138 true else j138 (decide (y48.1.f3 < y42.1.f3)))) else (if y48.1.f2 < y42.1.f2 then j138 true else j138 (decide (y48.1.f3 < y42.1.f3))))))))))) (fun (j39 : (Bool → Option Bool)) => (if (!y13) = true then j39 true else (if a1 < 1 then j39 true else (if 2048 < a1 then j39 true else (if 100 < (a2.length : Int) then j39 true else (if a3 < 0 then j39 true else (if 3000 < a3 then j39 true else (if a4 < 0 then j39 true else j39 (decide (1000 < a4))))))))))
def swagelaw15_TraceMore.post (G : Gd)  (r : Bool) (v : Value) (G' : Gd) (Lr : List Ch) : Prop := v = .bool r ∧ Lr = []
theorem swagelaw15_TraceMore.calls {G : Gd} {r : Bool} {a0 : (List S45)} {a1 : Int} {a2 : (List Int)} {a3 : Int} {a4 : Int} {A1 : Option Addr} {c2 : Nat} {A5 : Option Addr} {c6 : Nat} (hr3 : Rd G k45 A1 a0) (hl4 : a0.length ≤ c2) (hr7 : Rd G (Kd.int .i64) A5 a2) (hl8 : a2.length ≤ c6) (h : swagelaw15_TraceMore.f a0 a1 a2 a3 a4 = some r) : Fn Try.prog 4 G [] [.slice A1 a0.length c2, .int .i64 a1, .slice A5 a2.length c6, .int .i64 a3, .int .i64 a4] (swagelaw15_TraceMore.post G  r) := by
 refine Fn.intro (e := [(0, .slice A1 a0.length c2), (1, .int .i64 a1), (2, .slice A5 a2.length c6), (3, .int .i64 a3), (4, .int .i64 a4)]) 172 Try.func4 rfl Try.ntmps4 rfl rfl (Nat.le_of_ble_eq_true rfl) (fun L => ?_)
 unfold swagelaw15_TraceMore.f at h
 refine TC.seq ?_
 refine TC.region ?_
 refine TL.cons (TO.val rfl rfl rfl (Val.assign rfl) ?_)
 refine TL.nil ?_
 refine TQ.then_ ?_
 refine TC.seq ?_
 refine TC.region ?_
 obtain ⟨y9, hy10, h⟩ := bind_no h
 refine TL.cons (TL.callV (Lin := []) (args := []) rfl rfl rfl hbd9 rfl rfl (swagelaw15_small.calls hy10) rfl ?_)
 rintro _ G11 _ e12 ⟨rfl, rfl⟩
 refine TL.cons (TO.val rfl rfl rfl (Val.assign rfl) ?_)
 refine TL.nil ?_
 refine TQ.then_ ?_
 refine TC.seq ?_
 refine TC.region ?_
 refine TL.cons (TO.val rfl rfl rfl (Val.move rfl) ?_)
 obtain ⟨y13, hy14, h⟩ := bind_no h
 refine TL.cons (TL.callV (Lin := []) (args := [.slice A1 a0.length c2]) rfl rfl rfl hbd10 rfl rfl (swagelaw15_Few.calls (a0 := a0) (hr3.up e12) hl4 hy14) rfl ?_)
 rintro _ _ _ _ ⟨rfl, rfl, rfl⟩
 refine TL.cons (TO.val rfl rfl rfl (Val.assign rfl) ?_)
 refine TL.nil ?_
 refine TQ.then_ ?_
 refine TC.seq ?_
 refine TC.seq ?_
 obtain ⟨j39, hj39, h⟩ := jn_no h
 refine TC.tail (fun a W => ∃ (x38 : Bool) (G36 : Gd), j39 x38 = some r ∧ G.le G36 ∧ Fr 172 a [(0, .slice A1 a0.length c2), (1, .int .i64 a1), (2, .slice A5 a2.length c6), (3, .int .i64 a3), (4, .int .i64 a4), (11, .bool y9), (53, .bool x38)] ∧ Own G36 (L) W) ?_ ?_
 ·
  rintro a W ⟨x38, G36, h, e37, hF, hO⟩
  rw [hj39] at h
  refine TQ.use ?_ hF hO
  clear hF hO
  refine TQ.then_ ?_
  refine TC.cond_b rfl h (fun hc41 h => ?_) (fun hc41 h => ?_)
  ·
   refine TC.seq ?_
   refine TC.region ?_
   refine TL.cons (TO.val rfl rfl rfl (Val.move rfl) ?_)
   refine TL.cons (TO.val rfl rfl rfl (Val.assign rfl) ?_)
   refine TL.nil ?_
   refine TQ.then_ ?_
   refine TC.ret ?_
   refine TQ.thenR ?_
   obtain rfl := Option.some.inj h
   exact TQ.fin (.inl rfl) rfl Try.results4 (.tmp rfl .nil) rfl (FRel.mk (Ls := []) [] 0 e37 rfl rfl rfl ⟨rfl, rfl⟩)
  ·
   refine TC.skip ?_
   refine TQ.then_ ?_
   refine TC.seq ?_
   refine TC.region ?_
   refine TL.cons (TO.val rfl rfl rfl (Val.move rfl) ?_)
   refine TL.cons (TO.val rfl rfl rfl (Val.move rfl) ?_)
   refine TL.cons (TO.val rfl rfl rfl (Val.move rfl) ?_)
   refine TL.cons (TO.val rfl rfl rfl (Val.move rfl) ?_)
   obtain ⟨y42, hy43, h⟩ := bind_no h
   refine TL.cons (TL.callV (Lin := []) (args := [.slice A1 a0.length c2, .int .i64 a1, .slice A5 a2.length c6, .int .i64 a3]) rfl rfl rfl hbd11 rfl rfl (trace_Run.calls (a0 := a0) (a1 := a1) (a2 := a2) (a3 := a3) (hr3.up e37) hl4 (hr7.up e37) hl8 hy43) rfl ?_)
   rintro _ _ _ _ ⟨rfl, A44, c45, rfl, rfl⟩
   refine TL.cons (TO.val rfl rfl rfl (Val.move rfl) ?_)
   refine TL.cons (TO.val rfl rfl rfl (Val.extract rfl rfl) ?_)
   refine TL.cons (TO.val rfl rfl rfl (Val.extract rfl rfl) ?_)
   refine TL.cons (TL.alloc (cs := [.slice none 0 0, .int .i64 0, .int .i64 0, .int .i64 0, .int .i64 0]) rfl rfl zr28 rfl (fun b47 => ?_))
   refine TL.cons (TL.store 0 (ds := [.slice A44 y42.1.f0.length c45, .int .i64 y42.1.f1, .int .i64 y42.1.f2, .int .i64 y42.1.f3, .int .i64 y42.1.f4]) (cs' := [.slice A44 y42.1.f0.length c45, .int .i64 y42.1.f1, .int .i64 y42.1.f2, .int .i64 y42.1.f3, .int .i64 y42.1.f4]) (L' := (Blk b47 [.slice A44 y42.1.f0.length c45, .int .i64 y42.1.f1, .int .i64 y42.1.f2, .int .i64 y42.1.f3, .int .i64 y42.1.f4] 28 :: Row (Kd.int .i64) 3 (.slice A44 y42.1.f0.length c45) y42.1.f0 :: L)) rfl fsz28 rfl rfl rfl rfl rfl (Nat.le_of_ble_eq_true rfl) rfl rfl ?_)
   refine TL.cons (TO.val rfl rfl rfl (Val.assign rfl) ?_)
   refine TL.nil ?_
   refine TQ.then_ ?_
   refine TC.seq ?_
   refine TC.region ?_
   refine TL.cons (TO.val rfl rfl rfl (Val.move rfl) ?_)
   refine TL.cons (TO.val rfl rfl rfl (Val.move rfl) ?_)
   refine TL.cons (TO.val rfl rfl rfl (Val.move rfl) ?_)
   refine TL.cons (TO.val rfl rfl rfl (Val.move rfl) ?_)
   refine TL.cons (TO.val rfl rfl rfl (Val.move rfl) ?_)
   refine TL.cons (TO.val rfl rfl rfl (Val.cmp rfl rfl run_add) ?_)
   obtain ⟨y48, hy49, h⟩ := bind_no h
   refine TL.cons (TL.callV (Lin := []) (args := [.slice A1 a0.length c2, .int .i64 a1, .slice A5 a2.length c6, .int .i64 (IntKind.i64.wrap (a3 + a4))]) rfl rfl rfl hbd11 rfl rfl (trace_Run.calls (a0 := a0) (a1 := a1) (a2 := a2) (a3 := IntKind.i64.wrap (a3 + a4)) (hr3.up e37) hl4 (hr7.up e37) hl8 hy49) rfl ?_)
   rintro _ _ _ _ ⟨rfl, A50, c51, rfl, rfl⟩
   refine TL.cons (TO.val rfl rfl rfl (Val.move rfl) ?_)
   refine TL.cons (TO.val rfl rfl rfl (Val.extract rfl rfl) ?_)
   refine TL.cons (TO.val rfl rfl rfl (Val.extract rfl rfl) ?_)
   refine TL.cons (TL.alloc (cs := [.slice none 0 0, .int .i64 0, .int .i64 0, .int .i64 0, .int .i64 0]) rfl rfl zr28 rfl (fun b53 => ?_))
   refine TL.cons (TL.store 0 (ds := [.slice A50 y48.1.f0.length c51, .int .i64 y48.1.f1, .int .i64 y48.1.f2, .int .i64 y48.1.f3, .int .i64 y48.1.f4]) (cs' := [.slice A50 y48.1.f0.length c51, .int .i64 y48.1.f1, .int .i64 y48.1.f2, .int .i64 y48.1.f3, .int .i64 y48.1.f4]) (L' := (Blk b53 [.slice A50 y48.1.f0.length c51, .int .i64 y48.1.f1, .int .i64 y48.1.f2, .int .i64 y48.1.f3, .int .i64 y48.1.f4] 28 :: Row (Kd.int .i64) 3 (.slice A50 y48.1.f0.length c51) y48.1.f0 :: Blk b47 [.slice A44 y42.1.f0.length c45, .int .i64 y42.1.f1, .int .i64 y42.1.f2, .int .i64 y42.1.f3, .int .i64 y42.1.f4] 28 :: Row (Kd.int .i64) 3 (.slice A44 y42.1.f0.length c45) y42.1.f0 :: L)) rfl fsz28 rfl rfl rfl rfl rfl (Nat.le_of_ble_eq_true rfl) rfl rfl ?_)
   refine TL.cons (TO.val rfl rfl rfl (Val.assign rfl) ?_)
   refine TL.nil ?_
   refine TQ.then_ ?_
   refine TC.seq ?_
   refine TC.region ?_
   refine TL.cons (TO.val rfl rfl rfl (Val.move rfl) ?_)
   refine TL.cons (TO.val rfl rfl rfl (Val.move rfl) ?_)
   refine TL.cons (TO.val rfl rfl rfl (Val.move rfl) ?_)
   refine TL.cons (TO.val rfl rfl rfl (Val.cmp rfl rfl run_add) ?_)
   refine TL.cons (TO.val rfl rfl rfl (Val.move rfl) ?_)
   refine TL.cons (TO.val rfl rfl rfl (Val.move rfl) ?_)
   obtain ⟨y54, hy55, h⟩ := bind_no h
   refine TL.cons (TL.callV (Lin := []) (args := [.slice A1 a0.length c2, .int .i64 (IntKind.i64.wrap (a1 + a4)), .slice A5 a2.length c6, .int .i64 a3]) rfl rfl rfl hbd11 rfl rfl (trace_Run.calls (a0 := a0) (a1 := IntKind.i64.wrap (a1 + a4)) (a2 := a2) (a3 := a3) (hr3.up e37) hl4 (hr7.up e37) hl8 hy55) rfl ?_)
   rintro _ _ _ _ ⟨rfl, A56, c57, rfl, rfl⟩
   refine TL.cons (TO.val rfl rfl rfl (Val.move rfl) ?_)
   refine TL.cons (TO.val rfl rfl rfl (Val.extract rfl rfl) ?_)
   refine TL.cons (TO.val rfl rfl rfl (Val.extract rfl rfl) ?_)
   refine TL.cons (TL.alloc (cs := [.slice none 0 0, .int .i64 0, .int .i64 0, .int .i64 0, .int .i64 0]) rfl rfl zr28 rfl (fun b59 => ?_))
   refine TL.cons (TL.store 0 (ds := [.slice A56 y54.1.f0.length c57, .int .i64 y54.1.f1, .int .i64 y54.1.f2, .int .i64 y54.1.f3, .int .i64 y54.1.f4]) (cs' := [.slice A56 y54.1.f0.length c57, .int .i64 y54.1.f1, .int .i64 y54.1.f2, .int .i64 y54.1.f3, .int .i64 y54.1.f4]) (L' := (Blk b59 [.slice A56 y54.1.f0.length c57, .int .i64 y54.1.f1, .int .i64 y54.1.f2, .int .i64 y54.1.f3, .int .i64 y54.1.f4] 28 :: Row (Kd.int .i64) 3 (.slice A56 y54.1.f0.length c57) y54.1.f0 :: Blk b53 [.slice A50 y48.1.f0.length c51, .int .i64 y48.1.f1, .int .i64 y48.1.f2, .int .i64 y48.1.f3, .int .i64 y48.1.f4] 28 :: Row (Kd.int .i64) 3 (.slice A50 y48.1.f0.length c51) y48.1.f0 :: Blk b47 [.slice A44 y42.1.f0.length c45, .int .i64 y42.1.f1, .int .i64 y42.1.f2, .int .i64 y42.1.f3, .int .i64 y42.1.f4] 28 :: Row (Kd.int .i64) 3 (.slice A44 y42.1.f0.length c45) y42.1.f0 :: L)) rfl fsz28 rfl rfl rfl rfl rfl (Nat.le_of_ble_eq_true rfl) rfl rfl ?_)
   refine TL.cons (TO.val rfl rfl rfl (Val.assign rfl) ?_)
   refine TL.nil ?_
   refine TQ.then_ ?_
   refine TC.seq ?_
   refine TC.seq ?_
   refine TC.region ?_
   refine TL.cons (TO.val rfl rfl rfl (Val.move rfl) ?_)
   refine TL.cons (TO.val rfl rfl rfl (Val.cmp rfl rfl run_neq) ?_)
   refine TL.nil ?_
   refine TQ.then_ ?_
   refine TC.cond_b rfl h (fun hc79 h => ?_) (fun hc79 h => ?_)
   ·
    refine TC.seq ?_
    refine TC.region ?_
    refine TL.cons (TO.val rfl rfl rfl (Val.move rfl) ?_)
    refine TL.cons (TO.val rfl rfl rfl (Val.move rfl) ?_)
    refine TK.split (p := y9 = true) h (fun hg89 h => ?_) (fun hg89 h => ?_)
    ·
     have hk90 : y9 = true := hg89
     refine TL.cons (TO.val (Wt.yes rfl rfl rfl hk90) rfl rfl (Val.move rfl) ?_)
     refine TL.cons (TO.val (Wt.yes rfl rfl rfl hk90) rfl rfl (Val.move rfl) ?_)
     refine TL.cons (TO.val (Wt.yes rfl rfl rfl hk90) rfl rfl (Val.cmp rfl rfl run_eql) ?_)
     refine TL.cons (TO.val rfl rfl rfl (Val.pickY rfl hk90 rfl) ?_)
     refine TL.cons (TO.val rfl rfl rfl (Val.move rfl) ?_)
     refine TK.split (p := y42.2 = y48.2) h (fun hg91 h => ?_) (fun hg91 h => ?_)
     ·
      have hk92 : decide (y42.2 = y48.2) = true := decide_eq_true hg91
      refine TL.cons (TO.val (Wt.yes rfl rfl rfl hk92) rfl rfl (Val.move rfl) ?_)
      refine TL.cons (TO.val (Wt.yes rfl rfl rfl hk92) rfl rfl (Val.move rfl) ?_)
      refine TL.cons (TO.val (Wt.yes rfl rfl rfl hk92) rfl rfl (Val.cmp rfl rfl run_eql) ?_)
      refine TL.cons (TO.val rfl rfl rfl (Val.pickY rfl hk92 rfl) ?_)
      refine TL.cons (TO.val rfl rfl rfl (Val.move rfl) ?_)
      refine TK.split (p := y48.2 = y54.2) h (fun hg93 h => ?_) (fun hg93 h => ?_)
      ·
       have hk94 : decide (y48.2 = y54.2) = true := decide_eq_true hg93
       refine TL.cons (TO.val (Wt.yes rfl rfl rfl hk94) rfl rfl (Val.fieldAddrB Try.underlying28 rfl fsz23 rfl rfl rfl) ?_)
       refine TL.cons (TO.val (Wt.yes rfl rfl rfl hk94) rfl rfl (Val.loadB 4 agg23 rfl rfl rfl) ?_)
       refine TL.cons (TO.val (Wt.yes rfl rfl rfl hk94) rfl rfl (Val.len Try.underlying23 rfl) ?_)
       refine TL.cons (TO.val (Wt.yes rfl rfl rfl hk94) rfl rfl (Val.cmp rfl rfl run_eql) ?_)
       refine TL.cons (TO.val rfl rfl rfl (Val.pickY rfl hk94 rfl) ?_)
       refine TL.cons (TO.val rfl rfl rfl (Val.assign rfl) ?_)
       refine TL.nil ?_
       refine TQ.then_ ?_
       refine TC.ret ?_
       refine TQ.thenR ?_
       obtain rfl := Option.some.inj h
       exact TQ.fin (.inl rfl) rfl Try.results4 (.tmp rfl .nil) rfl (FRel.mk (Ls := []) [] 6 e37 rfl rfl rfl ⟨rfl, rfl⟩)
      ·
       have hk95 : decide (y48.2 = y54.2) = false := decide_eq_false hg93
       refine TL.cons (TL.not (Wt.no rfl rfl rfl hk95) rfl ?_)
       refine TL.cons (TL.not (Wt.no rfl rfl rfl hk95) rfl ?_)
       refine TL.cons (TL.not (Wt.no rfl rfl rfl hk95) rfl ?_)
       refine TL.cons (TL.not (Wt.no rfl rfl rfl hk95) rfl ?_)
       refine TL.cons (TO.val rfl rfl rfl (Val.pickN rfl hk95 rfl) ?_)
       refine TL.cons (TO.val rfl rfl rfl (Val.assign rfl) ?_)
       refine TL.nil ?_
       refine TQ.then_ ?_
       refine TC.ret ?_
       refine TQ.thenR ?_
       obtain rfl := Option.some.inj h
       exact TQ.fin (.inl rfl) rfl Try.results4 (.tmp rfl .nil) rfl (FRel.mk (Ls := []) [] 6 e37 rfl rfl rfl ⟨rfl, rfl⟩)
     ·
      have hk96 : decide (y42.2 = y48.2) = false := decide_eq_false hg91
      refine TL.cons (TL.not (Wt.no rfl rfl rfl hk96) rfl ?_)
      refine TL.cons (TL.not (Wt.no rfl rfl rfl hk96) rfl ?_)
      refine TL.cons (TL.not (Wt.no rfl rfl rfl hk96) rfl ?_)
      refine TL.cons (TO.val rfl rfl rfl (Val.pickN rfl hk96 rfl) ?_)
      refine TL.cons (TO.val rfl rfl rfl (Val.move rfl) ?_)
      refine TL.cons (TL.not (Wt.no rfl rfl rfl rfl) rfl ?_)
      refine TL.cons (TL.not (Wt.no rfl rfl rfl rfl) rfl ?_)
      refine TL.cons (TL.not (Wt.no rfl rfl rfl rfl) rfl ?_)
      refine TL.cons (TL.not (Wt.no rfl rfl rfl rfl) rfl ?_)
      refine TL.cons (TO.val rfl rfl rfl (Val.pickN rfl rfl rfl) ?_)
      refine TL.cons (TO.val rfl rfl rfl (Val.assign rfl) ?_)
      refine TL.nil ?_
      refine TQ.then_ ?_
      refine TC.ret ?_
      refine TQ.thenR ?_
      obtain rfl := Option.some.inj h
      exact TQ.fin (.inl rfl) rfl Try.results4 (.tmp rfl .nil) rfl (FRel.mk (Ls := []) [] 6 e37 rfl rfl rfl ⟨rfl, rfl⟩)
    ·
     have hk97 : y9 = false := (by simpa using hg89)
     refine TL.cons (TL.not (Wt.no rfl rfl rfl hk97) rfl ?_)
     refine TL.cons (TL.not (Wt.no rfl rfl rfl hk97) rfl ?_)
     refine TL.cons (TL.not (Wt.no rfl rfl rfl hk97) rfl ?_)
     refine TL.cons (TO.val rfl rfl rfl (Val.pickN rfl hk97 rfl) ?_)
     refine TL.cons (TO.val rfl rfl rfl (Val.move rfl) ?_)
     refine TL.cons (TL.not (Wt.no rfl rfl rfl rfl) rfl ?_)
     refine TL.cons (TL.not (Wt.no rfl rfl rfl rfl) rfl ?_)
     refine TL.cons (TL.not (Wt.no rfl rfl rfl rfl) rfl ?_)
     refine TL.cons (TO.val rfl rfl rfl (Val.pickN rfl rfl rfl) ?_)
     refine TL.cons (TO.val rfl rfl rfl (Val.move rfl) ?_)
     refine TL.cons (TL.not (Wt.no rfl rfl rfl rfl) rfl ?_)
     refine TL.cons (TL.not (Wt.no rfl rfl rfl rfl) rfl ?_)
     refine TL.cons (TL.not (Wt.no rfl rfl rfl rfl) rfl ?_)
     refine TL.cons (TL.not (Wt.no rfl rfl rfl rfl) rfl ?_)
     refine TL.cons (TO.val rfl rfl rfl (Val.pickN rfl rfl rfl) ?_)
     refine TL.cons (TO.val rfl rfl rfl (Val.assign rfl) ?_)
     refine TL.nil ?_
     refine TQ.then_ ?_
     refine TC.ret ?_
     refine TQ.thenR ?_
     obtain rfl := Option.some.inj h
     exact TQ.fin (.inl rfl) rfl Try.results4 (.tmp rfl .nil) rfl (FRel.mk (Ls := []) [] 6 e37 rfl rfl rfl ⟨rfl, rfl⟩)
   ·
    refine TC.skip ?_
    refine TQ.then_ ?_
    refine TC.seq ?_
    refine TC.seq ?_
    obtain ⟨j138, hj138, h⟩ := jn_no h
    refine TC.tail (fun a W => ∃ (x137 : Bool) (G135 : Gd), j138 x137 = some r ∧ G.le G135 ∧ Fr 172 a [(1, .int .i64 a1), (11, .bool y9), (13, .pointer (some ⟨b47, 0, none⟩)), (17, .pointer (some ⟨b59, 0, none⟩)), (138, .bool x137)] ∧ Own G135 (Blk b47 [.slice A44 y42.1.f0.length c45, .int .i64 y42.1.f1, .int .i64 y42.1.f2, .int .i64 y42.1.f3, .int .i64 y42.1.f4] 28 :: Blk b59 [.slice A56 y54.1.f0.length c57, .int .i64 y54.1.f1, .int .i64 y54.1.f2, .int .i64 y54.1.f3, .int .i64 y54.1.f4] 28 :: Row (Kd.int .i64) 3 (.slice A44 y42.1.f0.length c45) y42.1.f0 :: Row (Kd.int .i64) 3 (.slice A56 y54.1.f0.length c57) y54.1.f0 :: L) W) ?_ ?_
    ·
     rintro a W ⟨x137, G135, h, e136, hF, hO⟩
     rw [hj138] at h
     refine TQ.use ?_ hF hO
     clear hF hO
     refine TQ.then_ ?_
     refine TC.cond_b rfl h (fun hc140 h => ?_) (fun hc140 h => ?_)
     ·
      refine TC.seq ?_
      refine TC.region ?_
      refine TL.cons (TO.val rfl rfl rfl (Val.assign rfl) ?_)
      refine TL.nil ?_
      refine TQ.then_ ?_
      refine TC.ret ?_
      refine TQ.thenR ?_
      obtain rfl := Option.some.inj h
      exact TQ.fin (.inl rfl) rfl Try.results4 (.tmp rfl .nil) rfl (FRel.mk (Ls := []) [] 4 e136 rfl rfl rfl ⟨rfl, rfl⟩)
     ·
      refine TC.skip ?_
      refine TQ.then_ ?_
      refine TC.seq ?_
      obtain ⟨j147, hj147, h⟩ := jn_no h
      refine TC.tail (fun a W => ∃ (x146 : Bool) (G144 : Gd), j147 x146 = some r ∧ G.le G144 ∧ Fr 172 a [(1, .int .i64 a1), (11, .bool y9), (13, .pointer (some ⟨b47, 0, none⟩)), (17, .pointer (some ⟨b59, 0, none⟩)), (19, .bool x146)] ∧ Own G144 (Blk b47 [.slice A44 y42.1.f0.length c45, .int .i64 y42.1.f1, .int .i64 y42.1.f2, .int .i64 y42.1.f3, .int .i64 y42.1.f4] 28 :: Blk b59 [.slice A56 y54.1.f0.length c57, .int .i64 y54.1.f1, .int .i64 y54.1.f2, .int .i64 y54.1.f3, .int .i64 y54.1.f4] 28 :: Row (Kd.int .i64) 3 (.slice A44 y42.1.f0.length c45) y42.1.f0 :: Row (Kd.int .i64) 3 (.slice A56 y54.1.f0.length c57) y54.1.f0 :: L) W) ?_ ?_
      ·
       rintro a W ⟨x146, G144, h, e145, hF, hO⟩
       rw [hj147] at h
       refine TQ.use ?_ hF hO
       clear hF hO
       refine TQ.then_ ?_
       refine TC.seq ?_
       refine TC.region ?_
       refine TL.cons (TO.val rfl rfl rfl (Val.move rfl) ?_)
       refine TL.cons (TO.val rfl rfl rfl (Val.move rfl) ?_)
       refine TK.split (p := y9 = true) h (fun hg199 h => ?_) (fun hg199 h => ?_)
       ·
        have hk200 : y9 = true := hg199
        refine TL.cons (TO.val (Wt.yes rfl rfl rfl hk200) rfl rfl (Val.move rfl) ?_)
        refine TL.cons (TO.val (Wt.yes rfl rfl rfl hk200) rfl rfl (Val.move rfl) ?_)
        refine TK.split (p := x146 = true) h (fun hg201 h => ?_) (fun hg201 h => ?_)
        ·
         have hk202 : x146 = true := hg201
         refine TL.cons (TL.not (Wt.no rfl rfl rfl hk202) rfl ?_)
         refine TL.cons (TL.not (Wt.no rfl rfl rfl hk202) rfl ?_)
         refine TL.cons (TL.not (Wt.no rfl rfl rfl hk202) rfl ?_)
         refine TL.cons (TO.val (Wt.yes rfl rfl rfl hk200) rfl rfl (Val.pickY rfl hk202 rfl) ?_)
         refine TL.cons (TO.val rfl rfl rfl (Val.pickY rfl hk200 rfl) ?_)
         refine TL.cons (TO.val rfl rfl rfl (Val.move rfl) ?_)
         refine TL.cons (TO.val (Wt.yes rfl rfl rfl rfl) rfl rfl (Val.fieldAddrB Try.underlying28 rfl fsz26 rfl rfl rfl) ?_)
         refine TL.cons (TO.val (Wt.yes rfl rfl rfl rfl) rfl rfl (Val.loadB 0 agg26 rfl rfl rfl) ?_)
         refine TL.cons (TO.val (Wt.yes rfl rfl rfl rfl) rfl rfl (Val.cmp rfl rfl run_eql) ?_)
         refine TL.cons (TO.val (Wt.yes rfl rfl rfl rfl) rfl rfl (Val.move rfl) ?_)
         refine TK.split (p := y42.1.f1 = 7) h (fun hg203 h => ?_) (fun hg203 h => ?_)
         ·
          have hk204 : decide (y42.1.f1 = 7) = true := decide_eq_true hg203
          refine TL.cons (TL.not (Wt.no rfl rfl rfl hk204) rfl ?_)
          refine TL.cons (TL.not (Wt.no rfl rfl rfl hk204) rfl ?_)
          refine TL.cons (TL.not (Wt.no rfl rfl rfl hk204) rfl ?_)
          refine TL.cons (TO.val (Wt.yes rfl rfl rfl rfl) rfl rfl (Val.pickY rfl hk204 rfl) ?_)
          refine TL.cons (TO.val rfl rfl rfl (Val.pickY rfl rfl rfl) ?_)
          refine TL.cons (TO.val rfl rfl rfl (Val.move rfl) ?_)
          refine TL.cons (TO.val (Wt.yes rfl rfl rfl rfl) rfl rfl (Val.fieldAddrB Try.underlying28 rfl fsz3 rfl rfl rfl) ?_)
          refine TL.cons (TO.val (Wt.yes rfl rfl rfl rfl) rfl rfl (Val.loadB 0 agg3 rfl rfl rfl) ?_)
          refine TL.cons (TO.val (Wt.yes rfl rfl rfl rfl) rfl rfl (Val.move rfl) ?_)
          refine TL.cons (TO.val (Wt.yes rfl rfl rfl rfl) rfl rfl (Val.cmp rfl rfl run_lss) ?_)
          refine TL.cons (TO.val rfl rfl rfl (Val.pickY rfl rfl rfl) ?_)
          refine TL.cons (TO.val rfl rfl rfl (Val.assign rfl) ?_)
          refine TL.nil ?_
          refine TQ.then_ ?_
          refine TC.ret ?_
          obtain rfl := Option.some.inj h
          exact TQ.fin (.inl rfl) rfl Try.results4 (.tmp rfl .nil) rfl (FRel.mk (Ls := []) [] 4 e145 rfl rfl rfl ⟨rfl, rfl⟩)
         ·
          have hk205 : decide (y42.1.f1 = 7) = false := decide_eq_false hg203
          refine TL.cons (TO.val (Wt.yes rfl rfl rfl hk205) rfl rfl (Val.loadsB 0 (cs := [.slice A44 y42.1.f0.length c45, .int .i64 y42.1.f1, .int .i64 y42.1.f2, .int .i64 y42.1.f3, .int .i64 y42.1.f4]) agg28 fsz28 rfl rfl rfl rfl) ?_)
          refine TL.cons (TO.val (Wt.yes rfl rfl rfl hk205) rfl rfl (Val.loadsB 1 (cs := [.slice A56 y54.1.f0.length c57, .int .i64 y54.1.f1, .int .i64 y54.1.f2, .int .i64 y54.1.f3, .int .i64 y54.1.f4]) agg28 fsz28 rfl rfl rfl rfl) ?_)
          refine TK.sel (Ls := [Row (Kd.int .i64) 3 (.slice A44 y42.1.f0.length c45) y42.1.f0, Blk b47 [.slice A44 y42.1.f0.length c45, .int .i64 y42.1.f1, .int .i64 y42.1.f2, .int .i64 y42.1.f3, .int .i64 y42.1.f4] 28, Blk b59 [.slice A56 y54.1.f0.length c57, .int .i64 y54.1.f1, .int .i64 y54.1.f2, .int .i64 y54.1.f3, .int .i64 y54.1.f4] 28, Row (Kd.int .i64) 3 (.slice A56 y54.1.f0.length c57) y54.1.f0]) [2, 0, 1, 3] 4 rfl rfl rfl ?_
          refine TK.share (fun G206 e207 hs208 hb209 => ?_)
          have rd210 : Rd G206 (Kd.int .i64) A44 y42.1.f0 := Rd.row hs208
          have le211 : y42.1.f0.length ≤ c45 := Row.le hs208
          refine TK.sel (Ls := [Row (Kd.int .i64) 3 (.slice A56 y54.1.f0.length c57) y54.1.f0, Blk b47 [.slice A44 y42.1.f0.length c45, .int .i64 y42.1.f1, .int .i64 y42.1.f2, .int .i64 y42.1.f3, .int .i64 y42.1.f4] 28, Blk b59 [.slice A56 y54.1.f0.length c57, .int .i64 y54.1.f1, .int .i64 y54.1.f2, .int .i64 y54.1.f3, .int .i64 y54.1.f4] 28]) [2, 0, 1] 3 rfl rfl rfl ?_
          refine TK.share (fun G212 e213 hs214 hb215 => ?_)
          have rd216 : Rd G212 (Kd.int .i64) A56 y54.1.f0 := Rd.row hs214
          have le217 : y54.1.f0.length ≤ c57 := Row.le hs214
          obtain ⟨y218, hy219, h⟩ := bind_no h
          refine TL.cons (TL.callV (Lin := []) (args := [.agg #[.slice A44 y42.1.f0.length c45, .int .i64 y42.1.f1, .int .i64 y42.1.f2, .int .i64 y42.1.f3, .int .i64 y42.1.f4], .agg #[.slice A56 y54.1.f0.length c57, .int .i64 y54.1.f1, .int .i64 y54.1.f2, .int .i64 y54.1.f3, .int .i64 y54.1.f4]]) (Wt.yes rfl rfl rfl hk205) rfl rfl hbd15 rfl rfl (trace_Prefix.calls (a0 := y42.1) (a1 := y54.1) (rd210.up e213) le211 rd216 le217 hy219) rfl ?_)
          rintro _ _ _ _ ⟨rfl, rfl, rfl⟩
          refine TL.cons (TO.val (Wt.yes rfl rfl rfl rfl) rfl rfl (Val.pickN rfl hk205 rfl) ?_)
          refine TL.cons (TO.val rfl rfl rfl (Val.pickY rfl rfl rfl) ?_)
          refine TL.cons (TO.val rfl rfl rfl (Val.move rfl) ?_)
          refine TK.split (p := y218 = true) h (fun hg220 h => ?_) (fun hg220 h => ?_)
          ·
           have hk221 : y218 = true := hg220
           refine TL.cons (TO.val (Wt.yes rfl rfl rfl hk221) rfl rfl (Val.fieldAddrB Try.underlying28 rfl fsz3 rfl rfl rfl) ?_)
           refine TL.cons (TO.val (Wt.yes rfl rfl rfl hk221) rfl rfl (Val.loadB 0 agg3 rfl rfl rfl) ?_)
           refine TL.cons (TO.val (Wt.yes rfl rfl rfl hk221) rfl rfl (Val.move rfl) ?_)
           refine TL.cons (TO.val (Wt.yes rfl rfl rfl hk221) rfl rfl (Val.cmp rfl rfl run_lss) ?_)
           refine TL.cons (TO.val rfl rfl rfl (Val.pickY rfl hk221 rfl) ?_)
           refine TL.cons (TO.val rfl rfl rfl (Val.assign rfl) ?_)
           refine TL.nil ?_
           refine TQ.then_ ?_
           refine TC.ret ?_
           refine TQ.back hb215 ?_
           refine TQ.back hb209 ?_
           obtain rfl := Option.some.inj h
           exact TQ.fin (.inl rfl) rfl Try.results4 (.tmp rfl .nil) rfl (FRel.mk (Ls := []) [] 4 e145 rfl rfl rfl ⟨rfl, rfl⟩)
          ·
           have hk222 : y218 = false := (by simpa using hg220)
           refine TL.cons (TL.not (Wt.no rfl rfl rfl hk222) rfl ?_)
           refine TL.cons (TL.not (Wt.no rfl rfl rfl hk222) rfl ?_)
           refine TL.cons (TL.not (Wt.no rfl rfl rfl hk222) rfl ?_)
           refine TL.cons (TL.not (Wt.no rfl rfl rfl hk222) rfl ?_)
           refine TL.cons (TO.val rfl rfl rfl (Val.pickN rfl hk222 rfl) ?_)
           refine TL.cons (TO.val rfl rfl rfl (Val.assign rfl) ?_)
           refine TL.nil ?_
           refine TQ.then_ ?_
           refine TC.ret ?_
           refine TQ.back hb215 ?_
           refine TQ.back hb209 ?_
           obtain rfl := Option.some.inj h
           exact TQ.fin (.inl rfl) rfl Try.results4 (.tmp rfl .nil) rfl (FRel.mk (Ls := []) [] 4 e145 rfl rfl rfl ⟨rfl, rfl⟩)
        ·
         have hk223 : x146 = false := (by simpa using hg201)
         refine TL.cons (TO.val (Wt.yes rfl rfl rfl hk223) rfl rfl (Val.loadsB 0 (cs := [.slice A44 y42.1.f0.length c45, .int .i64 y42.1.f1, .int .i64 y42.1.f2, .int .i64 y42.1.f3, .int .i64 y42.1.f4]) agg28 fsz28 rfl rfl rfl rfl) ?_)
         refine TL.cons (TO.val (Wt.yes rfl rfl rfl hk223) rfl rfl (Val.loadsB 1 (cs := [.slice A56 y54.1.f0.length c57, .int .i64 y54.1.f1, .int .i64 y54.1.f2, .int .i64 y54.1.f3, .int .i64 y54.1.f4]) agg28 fsz28 rfl rfl rfl rfl) ?_)
         refine TK.sel (Ls := [Row (Kd.int .i64) 3 (.slice A44 y42.1.f0.length c45) y42.1.f0, Blk b47 [.slice A44 y42.1.f0.length c45, .int .i64 y42.1.f1, .int .i64 y42.1.f2, .int .i64 y42.1.f3, .int .i64 y42.1.f4] 28, Blk b59 [.slice A56 y54.1.f0.length c57, .int .i64 y54.1.f1, .int .i64 y54.1.f2, .int .i64 y54.1.f3, .int .i64 y54.1.f4] 28, Row (Kd.int .i64) 3 (.slice A56 y54.1.f0.length c57) y54.1.f0]) [2, 0, 1, 3] 4 rfl rfl rfl ?_
         refine TK.share (fun G224 e225 hs226 hb227 => ?_)
         have rd228 : Rd G224 (Kd.int .i64) A44 y42.1.f0 := Rd.row hs226
         have le229 : y42.1.f0.length ≤ c45 := Row.le hs226
         refine TK.sel (Ls := [Row (Kd.int .i64) 3 (.slice A56 y54.1.f0.length c57) y54.1.f0, Blk b47 [.slice A44 y42.1.f0.length c45, .int .i64 y42.1.f1, .int .i64 y42.1.f2, .int .i64 y42.1.f3, .int .i64 y42.1.f4] 28, Blk b59 [.slice A56 y54.1.f0.length c57, .int .i64 y54.1.f1, .int .i64 y54.1.f2, .int .i64 y54.1.f3, .int .i64 y54.1.f4] 28]) [2, 0, 1] 3 rfl rfl rfl ?_
         refine TK.share (fun G230 e231 hs232 hb233 => ?_)
         have rd234 : Rd G230 (Kd.int .i64) A56 y54.1.f0 := Rd.row hs232
         have le235 : y54.1.f0.length ≤ c57 := Row.le hs232
         obtain ⟨y236, hy237, h⟩ := bind_no h
         refine TL.cons (TL.callV (Lin := []) (args := [.agg #[.slice A44 y42.1.f0.length c45, .int .i64 y42.1.f1, .int .i64 y42.1.f2, .int .i64 y42.1.f3, .int .i64 y42.1.f4], .agg #[.slice A56 y54.1.f0.length c57, .int .i64 y54.1.f1, .int .i64 y54.1.f2, .int .i64 y54.1.f3, .int .i64 y54.1.f4]]) (Wt.yes rfl rfl rfl hk223) rfl rfl hbd17 rfl rfl (trace_Same.calls (a0 := y42.1) (a1 := y54.1) (rd228.up e231) le229 rd234 le235 hy237) rfl ?_)
         rintro _ _ _ _ ⟨rfl, rfl, rfl⟩
         refine TL.cons (TO.val (Wt.yes rfl rfl rfl hk200) rfl rfl (Val.pickN rfl hk223 rfl) ?_)
         refine TL.cons (TO.val rfl rfl rfl (Val.pickY rfl hk200 rfl) ?_)
         refine TL.cons (TO.val rfl rfl rfl (Val.move rfl) ?_)
         refine TK.split (p := y236 = true) h (fun hg238 h => ?_) (fun hg238 h => ?_)
         ·
          have hk239 : y236 = true := hg238
          refine TL.cons (TO.val (Wt.yes rfl rfl rfl hk239) rfl rfl (Val.fieldAddrB Try.underlying28 rfl fsz26 rfl rfl rfl) ?_)
          refine TL.cons (TO.val (Wt.yes rfl rfl rfl hk239) rfl rfl (Val.loadB 0 agg26 rfl rfl rfl) ?_)
          refine TL.cons (TO.val (Wt.yes rfl rfl rfl hk239) rfl rfl (Val.cmp rfl rfl run_eql) ?_)
          refine TL.cons (TO.val (Wt.yes rfl rfl rfl hk239) rfl rfl (Val.move rfl) ?_)
          refine TK.split (p := y42.1.f1 = 7) h (fun hg240 h => ?_) (fun hg240 h => ?_)
          ·
           have hk241 : decide (y42.1.f1 = 7) = true := decide_eq_true hg240
           refine TL.cons (TL.not (Wt.no rfl rfl rfl hk241) rfl ?_)
           refine TL.cons (TL.not (Wt.no rfl rfl rfl hk241) rfl ?_)
           refine TL.cons (TL.not (Wt.no rfl rfl rfl hk241) rfl ?_)
           refine TL.cons (TO.val (Wt.yes rfl rfl rfl hk239) rfl rfl (Val.pickY rfl hk241 rfl) ?_)
           refine TL.cons (TO.val rfl rfl rfl (Val.pickY rfl hk239 rfl) ?_)
           refine TL.cons (TO.val rfl rfl rfl (Val.move rfl) ?_)
           refine TL.cons (TO.val (Wt.yes rfl rfl rfl rfl) rfl rfl (Val.fieldAddrB Try.underlying28 rfl fsz3 rfl rfl rfl) ?_)
           refine TL.cons (TO.val (Wt.yes rfl rfl rfl rfl) rfl rfl (Val.loadB 0 agg3 rfl rfl rfl) ?_)
           refine TL.cons (TO.val (Wt.yes rfl rfl rfl rfl) rfl rfl (Val.move rfl) ?_)
           refine TL.cons (TO.val (Wt.yes rfl rfl rfl rfl) rfl rfl (Val.cmp rfl rfl run_lss) ?_)
           refine TL.cons (TO.val rfl rfl rfl (Val.pickY rfl rfl rfl) ?_)
           refine TL.cons (TO.val rfl rfl rfl (Val.assign rfl) ?_)
           refine TL.nil ?_
           refine TQ.then_ ?_
           refine TC.ret ?_
           refine TQ.back hb233 ?_
           refine TQ.back hb227 ?_
           obtain rfl := Option.some.inj h
           exact TQ.fin (.inl rfl) rfl Try.results4 (.tmp rfl .nil) rfl (FRel.mk (Ls := []) [] 4 e145 rfl rfl rfl ⟨rfl, rfl⟩)
          ·
           have hk242 : decide (y42.1.f1 = 7) = false := decide_eq_false hg240
           refine TL.cons (TO.val (Wt.yes rfl rfl rfl hk242) rfl rfl (Val.loadsB 0 (cs := [.slice A44 y42.1.f0.length c45, .int .i64 y42.1.f1, .int .i64 y42.1.f2, .int .i64 y42.1.f3, .int .i64 y42.1.f4]) agg28 fsz28 rfl rfl rfl rfl) ?_)
           refine TL.cons (TO.val (Wt.yes rfl rfl rfl hk242) rfl rfl (Val.loadsB 1 (cs := [.slice A56 y54.1.f0.length c57, .int .i64 y54.1.f1, .int .i64 y54.1.f2, .int .i64 y54.1.f3, .int .i64 y54.1.f4]) agg28 fsz28 rfl rfl rfl rfl) ?_)
           obtain ⟨y243, hy244, h⟩ := bind_no h
           refine TL.cons (TL.callV (Lin := []) (args := [.agg #[.slice A44 y42.1.f0.length c45, .int .i64 y42.1.f1, .int .i64 y42.1.f2, .int .i64 y42.1.f3, .int .i64 y42.1.f4], .agg #[.slice A56 y54.1.f0.length c57, .int .i64 y54.1.f1, .int .i64 y54.1.f2, .int .i64 y54.1.f3, .int .i64 y54.1.f4]]) (Wt.yes rfl rfl rfl hk242) rfl rfl hbd15 rfl rfl (trace_Prefix.calls (a0 := y42.1) (a1 := y54.1) (rd228.up e231) le229 rd234 le235 hy244) rfl ?_)
           rintro _ _ _ _ ⟨rfl, rfl, rfl⟩
           refine TL.cons (TO.val (Wt.yes rfl rfl rfl hk239) rfl rfl (Val.pickN rfl hk242 rfl) ?_)
           refine TL.cons (TO.val rfl rfl rfl (Val.pickY rfl hk239 rfl) ?_)
           refine TL.cons (TO.val rfl rfl rfl (Val.move rfl) ?_)
           refine TK.split (p := y243 = true) h (fun hg245 h => ?_) (fun hg245 h => ?_)
           ·
            have hk246 : y243 = true := hg245
            refine TL.cons (TO.val (Wt.yes rfl rfl rfl hk246) rfl rfl (Val.fieldAddrB Try.underlying28 rfl fsz3 rfl rfl rfl) ?_)
            refine TL.cons (TO.val (Wt.yes rfl rfl rfl hk246) rfl rfl (Val.loadB 0 agg3 rfl rfl rfl) ?_)
            refine TL.cons (TO.val (Wt.yes rfl rfl rfl hk246) rfl rfl (Val.move rfl) ?_)
            refine TL.cons (TO.val (Wt.yes rfl rfl rfl hk246) rfl rfl (Val.cmp rfl rfl run_lss) ?_)
            refine TL.cons (TO.val rfl rfl rfl (Val.pickY rfl hk246 rfl) ?_)
            refine TL.cons (TO.val rfl rfl rfl (Val.assign rfl) ?_)
            refine TL.nil ?_
            refine TQ.then_ ?_
            refine TC.ret ?_
            refine TQ.back hb233 ?_
            refine TQ.back hb227 ?_
            obtain rfl := Option.some.inj h
            exact TQ.fin (.inl rfl) rfl Try.results4 (.tmp rfl .nil) rfl (FRel.mk (Ls := []) [] 4 e145 rfl rfl rfl ⟨rfl, rfl⟩)
           ·
            have hk247 : y243 = false := (by simpa using hg245)
            refine TL.cons (TL.not (Wt.no rfl rfl rfl hk247) rfl ?_)
            refine TL.cons (TL.not (Wt.no rfl rfl rfl hk247) rfl ?_)
            refine TL.cons (TL.not (Wt.no rfl rfl rfl hk247) rfl ?_)
            refine TL.cons (TL.not (Wt.no rfl rfl rfl hk247) rfl ?_)
            refine TL.cons (TO.val rfl rfl rfl (Val.pickN rfl hk247 rfl) ?_)
            refine TL.cons (TO.val rfl rfl rfl (Val.assign rfl) ?_)
            refine TL.nil ?_
            refine TQ.then_ ?_
            refine TC.ret ?_
            refine TQ.back hb233 ?_
            refine TQ.back hb227 ?_
            obtain rfl := Option.some.inj h
            exact TQ.fin (.inl rfl) rfl Try.results4 (.tmp rfl .nil) rfl (FRel.mk (Ls := []) [] 4 e145 rfl rfl rfl ⟨rfl, rfl⟩)
         ·
          have hk248 : y236 = false := (by simpa using hg238)
          refine TL.cons (TL.not (Wt.no rfl rfl rfl hk248) rfl ?_)
          refine TL.cons (TL.not (Wt.no rfl rfl rfl hk248) rfl ?_)
          refine TL.cons (TL.not (Wt.no rfl rfl rfl hk248) rfl ?_)
          refine TL.cons (TL.not (Wt.no rfl rfl rfl hk248) rfl ?_)
          refine TL.cons (TL.not rfl rfl ?_)
          refine TL.cons (TL.not rfl rfl ?_)
          refine TL.cons (TL.not rfl rfl ?_)
          refine TL.cons (TL.not (Wt.no rfl rfl rfl hk248) rfl ?_)
          refine TL.cons (TO.val rfl rfl rfl (Val.pickN rfl hk248 rfl) ?_)
          refine TL.cons (TO.val rfl rfl rfl (Val.move rfl) ?_)
          refine TL.cons (TL.not (Wt.no rfl rfl rfl rfl) rfl ?_)
          refine TL.cons (TL.not (Wt.no rfl rfl rfl rfl) rfl ?_)
          refine TL.cons (TL.not (Wt.no rfl rfl rfl rfl) rfl ?_)
          refine TL.cons (TL.not (Wt.no rfl rfl rfl rfl) rfl ?_)
          refine TL.cons (TO.val rfl rfl rfl (Val.pickN rfl rfl rfl) ?_)
          refine TL.cons (TO.val rfl rfl rfl (Val.assign rfl) ?_)
          refine TL.nil ?_
          refine TQ.then_ ?_
          refine TC.ret ?_
          refine TQ.back hb233 ?_
          refine TQ.back hb227 ?_
          obtain rfl := Option.some.inj h
          exact TQ.fin (.inl rfl) rfl Try.results4 (.tmp rfl .nil) rfl (FRel.mk (Ls := []) [] 4 e145 rfl rfl rfl ⟨rfl, rfl⟩)
       ·
        have hk249 : y9 = false := (by simpa using hg199)
        refine TL.cons (TL.not (Wt.no rfl rfl rfl hk249) rfl ?_)
        refine TL.cons (TL.not (Wt.no rfl rfl rfl hk249) rfl ?_)
        refine TL.cons (TL.not rfl rfl ?_)
        refine TL.cons (TL.not rfl rfl ?_)
        refine TL.cons (TL.not rfl rfl ?_)
        refine TL.cons (TL.not (Wt.no rfl rfl rfl hk249) rfl ?_)
        refine TL.cons (TO.val rfl rfl rfl (Val.pickN rfl hk249 rfl) ?_)
        refine TL.cons (TO.val rfl rfl rfl (Val.move rfl) ?_)
        refine TL.cons (TL.not (Wt.no rfl rfl rfl rfl) rfl ?_)
        refine TL.cons (TL.not (Wt.no rfl rfl rfl rfl) rfl ?_)
        refine TL.cons (TL.not (Wt.no rfl rfl rfl rfl) rfl ?_)
        refine TL.cons (TL.not (Wt.no rfl rfl rfl rfl) rfl ?_)
        refine TL.cons (TL.not rfl rfl ?_)
        refine TL.cons (TL.not rfl rfl ?_)
        refine TL.cons (TL.not rfl rfl ?_)
        refine TL.cons (TL.not (Wt.no rfl rfl rfl rfl) rfl ?_)
        refine TL.cons (TO.val rfl rfl rfl (Val.pickN rfl rfl rfl) ?_)
        refine TL.cons (TO.val rfl rfl rfl (Val.move rfl) ?_)
        refine TL.cons (TL.not (Wt.no rfl rfl rfl rfl) rfl ?_)
        refine TL.cons (TL.not (Wt.no rfl rfl rfl rfl) rfl ?_)
        refine TL.cons (TL.not (Wt.no rfl rfl rfl rfl) rfl ?_)
        refine TL.cons (TL.not (Wt.no rfl rfl rfl rfl) rfl ?_)
        refine TL.cons (TO.val rfl rfl rfl (Val.pickN rfl rfl rfl) ?_)
        refine TL.cons (TO.val rfl rfl rfl (Val.assign rfl) ?_)
        refine TL.nil ?_
        refine TQ.then_ ?_
        refine TC.ret ?_
        obtain rfl := Option.some.inj h
        exact TQ.fin (.inl rfl) rfl Try.results4 (.tmp rfl .nil) rfl (FRel.mk (Ls := []) [] 4 e145 rfl rfl rfl ⟨rfl, rfl⟩)
      ·
       refine TC.region ?_
       refine TL.cons (TO.val rfl rfl rfl (Val.fieldAddrB Try.underlying28 rfl fsz26 rfl rfl rfl) ?_)
       refine TL.cons (TO.val rfl rfl rfl (Val.loadB 0 agg26 rfl rfl rfl) ?_)
       refine TL.cons (TO.val rfl rfl rfl (Val.cmp rfl rfl run_eql) ?_)
       refine TL.cons (TO.val rfl rfl rfl (Val.move rfl) ?_)
       refine TK.split (p := y42.1.f1 = 9) h (fun hg250 h => ?_) (fun hg250 h => ?_)
       ·
        have hk251 : decide (y42.1.f1 = 9) = true := decide_eq_true hg250
        refine TL.cons (TL.not (Wt.no rfl rfl rfl hk251) rfl ?_)
        refine TL.cons (TL.not (Wt.no rfl rfl rfl hk251) rfl ?_)
        refine TL.cons (TL.not (Wt.no rfl rfl rfl hk251) rfl ?_)
        refine TL.cons (TO.val rfl rfl rfl (Val.pickY rfl hk251 rfl) ?_)
        refine TL.cons (TO.val rfl rfl rfl (Val.assign rfl) ?_)
        refine TL.nil ?_
        exact fun a W hF hO => ⟨true, G135, h, e136, hF.sub ⟨rfl, rfl, rfl, rfl, rfl, trivial⟩, hO.selT (Ls := [Blk b47 [.slice A44 y42.1.f0.length c45, .int .i64 y42.1.f1, .int .i64 y42.1.f2, .int .i64 y42.1.f3, .int .i64 y42.1.f4] 28, Blk b59 [.slice A56 y54.1.f0.length c57, .int .i64 y54.1.f1, .int .i64 y54.1.f2, .int .i64 y54.1.f3, .int .i64 y54.1.f4] 28, Row (Kd.int .i64) 3 (.slice A44 y42.1.f0.length c45) y42.1.f0, Row (Kd.int .i64) 3 (.slice A56 y54.1.f0.length c57) y54.1.f0]) [0, 1, 2, 3] 4 rfl rfl rfl⟩
       ·
        have hk252 : decide (y42.1.f1 = 9) = false := decide_eq_false hg250
        refine TL.cons (TO.val (Wt.yes rfl rfl rfl hk252) rfl rfl (Val.fieldAddrB Try.underlying28 rfl fsz26 rfl rfl rfl) ?_)
        refine TL.cons (TO.val (Wt.yes rfl rfl rfl hk252) rfl rfl (Val.loadB 0 agg26 rfl rfl rfl) ?_)
        refine TL.cons (TO.val (Wt.yes rfl rfl rfl hk252) rfl rfl (Val.cmp rfl rfl run_eql) ?_)
        refine TL.cons (TO.val rfl rfl rfl (Val.pickN rfl hk252 rfl) ?_)
        refine TL.cons (TO.val rfl rfl rfl (Val.assign rfl) ?_)
        refine TL.nil ?_
        exact fun a W hF hO => ⟨decide (y42.1.f1 = 7), G135, h, e136, hF.sub ⟨rfl, rfl, rfl, rfl, rfl, trivial⟩, hO.selT (Ls := [Blk b47 [.slice A44 y42.1.f0.length c45, .int .i64 y42.1.f1, .int .i64 y42.1.f2, .int .i64 y42.1.f3, .int .i64 y42.1.f4] 28, Blk b59 [.slice A56 y54.1.f0.length c57, .int .i64 y54.1.f1, .int .i64 y54.1.f2, .int .i64 y54.1.f3, .int .i64 y54.1.f4] 28, Row (Kd.int .i64) 3 (.slice A44 y42.1.f0.length c45) y42.1.f0, Row (Kd.int .i64) 3 (.slice A56 y54.1.f0.length c57) y54.1.f0]) [0, 1, 2, 3] 4 rfl rfl rfl⟩
    ·
     refine TC.region ?_
     refine TL.cons (TO.val rfl rfl rfl (Val.move rfl) ?_)
     refine TL.cons (TO.val rfl rfl rfl (Val.cmp rfl rfl run_neq) ?_)
     refine TL.cons (TO.val rfl rfl rfl (Val.move rfl) ?_)
     refine TK.split (p := (!decide (y48.2 = 0)) = true) h (fun hg253 h => ?_) (fun hg253 h => ?_)
     ·
      have hk254 : (!decide (y48.2 = 0)) = true := hg253
      refine TL.cons (TL.not (Wt.no rfl rfl rfl hk254) rfl ?_)
      refine TL.cons (TL.not (Wt.no rfl rfl rfl hk254) rfl ?_)
      refine TL.cons (TO.val rfl rfl rfl (Val.pickY rfl hk254 rfl) ?_)
      refine TL.cons (TO.val rfl rfl rfl (Val.move rfl) ?_)
      refine TL.cons (TL.not (Wt.no rfl rfl rfl rfl) rfl ?_)
      refine TL.cons (TL.not (Wt.no rfl rfl rfl rfl) rfl ?_)
      refine TL.cons (TL.not (Wt.no rfl rfl rfl rfl) rfl ?_)
      refine TL.cons (TL.not (Wt.no rfl rfl rfl rfl) rfl ?_)
      refine TL.cons (TO.val rfl rfl rfl (Val.pickY rfl rfl rfl) ?_)
      refine TL.cons (TO.val rfl rfl rfl (Val.move rfl) ?_)
      refine TL.cons (TL.not (Wt.no rfl rfl rfl rfl) rfl ?_)
      refine TL.cons (TL.not (Wt.no rfl rfl rfl rfl) rfl ?_)
      refine TL.cons (TL.not (Wt.no rfl rfl rfl rfl) rfl ?_)
      refine TL.cons (TL.not (Wt.no rfl rfl rfl rfl) rfl ?_)
      refine TL.cons (TL.not rfl rfl ?_)
      refine TL.cons (TL.not rfl rfl ?_)
      refine TL.cons (TL.not rfl rfl ?_)
      refine TL.cons (TL.not rfl rfl ?_)
      refine TL.cons (TL.not (Wt.no rfl rfl rfl rfl) rfl ?_)
      refine TL.cons (TO.val rfl rfl rfl (Val.pickY rfl rfl rfl) ?_)
      refine TL.cons (TO.val rfl rfl rfl (Val.move rfl) ?_)
      refine TL.cons (TL.not (Wt.no rfl rfl rfl rfl) rfl ?_)
      refine TL.cons (TL.not (Wt.no rfl rfl rfl rfl) rfl ?_)
      refine TL.cons (TL.not (Wt.no rfl rfl rfl rfl) rfl ?_)
      refine TL.cons (TL.not (Wt.no rfl rfl rfl rfl) rfl ?_)
      refine TL.cons (TL.not (Wt.no rfl rfl rfl rfl) rfl ?_)
      refine TL.cons (TO.val rfl rfl rfl (Val.pickY rfl rfl rfl) ?_)
      refine TL.cons (TO.val rfl rfl rfl (Val.move rfl) ?_)
      refine TL.cons (TL.not (Wt.no rfl rfl rfl rfl) rfl ?_)
      refine TL.cons (TL.not (Wt.no rfl rfl rfl rfl) rfl ?_)
      refine TL.cons (TL.not (Wt.no rfl rfl rfl rfl) rfl ?_)
      refine TL.cons (TL.not (Wt.no rfl rfl rfl rfl) rfl ?_)
      refine TL.cons (TL.not (Wt.no rfl rfl rfl rfl) rfl ?_)
      refine TL.cons (TO.val rfl rfl rfl (Val.pickY rfl rfl rfl) ?_)
      refine TL.nil ?_
      exact fun a W hF hO => ⟨true, G36, h, e37, hF.sub ⟨rfl, rfl, rfl, rfl, rfl, trivial⟩, hO.selT (Ls := [Blk b47 [.slice A44 y42.1.f0.length c45, .int .i64 y42.1.f1, .int .i64 y42.1.f2, .int .i64 y42.1.f3, .int .i64 y42.1.f4] 28, Blk b59 [.slice A56 y54.1.f0.length c57, .int .i64 y54.1.f1, .int .i64 y54.1.f2, .int .i64 y54.1.f3, .int .i64 y54.1.f4] 28, Row (Kd.int .i64) 3 (.slice A44 y42.1.f0.length c45) y42.1.f0, Row (Kd.int .i64) 3 (.slice A56 y54.1.f0.length c57) y54.1.f0]) [4, 0, 5, 1] 6 rfl rfl rfl⟩
     ·
      have hk255 : (!decide (y48.2 = 0)) = false := (by simpa using hg253)
      refine TL.cons (TO.val (Wt.yes rfl rfl rfl hk255) rfl rfl (Val.move rfl) ?_)
      refine TL.cons (TO.val (Wt.yes rfl rfl rfl hk255) rfl rfl (Val.cmp rfl rfl run_neq) ?_)
      refine TL.cons (TO.val rfl rfl rfl (Val.pickN rfl hk255 rfl) ?_)
      refine TL.cons (TO.val rfl rfl rfl (Val.move rfl) ?_)
      refine TK.split (p := (!decide (y54.2 = 0)) = true) h (fun hg256 h => ?_) (fun hg256 h => ?_)
      ·
       have hk257 : (!decide (y54.2 = 0)) = true := hg256
       refine TL.cons (TL.not (Wt.no rfl rfl rfl hk257) rfl ?_)
       refine TL.cons (TL.not (Wt.no rfl rfl rfl hk257) rfl ?_)
       refine TL.cons (TL.not (Wt.no rfl rfl rfl hk257) rfl ?_)
       refine TL.cons (TL.not (Wt.no rfl rfl rfl hk257) rfl ?_)
       refine TL.cons (TO.val rfl rfl rfl (Val.pickY rfl hk257 rfl) ?_)
       refine TL.cons (TO.val rfl rfl rfl (Val.move rfl) ?_)
       refine TL.cons (TL.not (Wt.no rfl rfl rfl rfl) rfl ?_)
       refine TL.cons (TL.not (Wt.no rfl rfl rfl rfl) rfl ?_)
       refine TL.cons (TL.not (Wt.no rfl rfl rfl rfl) rfl ?_)
       refine TL.cons (TL.not (Wt.no rfl rfl rfl rfl) rfl ?_)
       refine TL.cons (TL.not rfl rfl ?_)
       refine TL.cons (TL.not rfl rfl ?_)
       refine TL.cons (TL.not rfl rfl ?_)
       refine TL.cons (TL.not rfl rfl ?_)
       refine TL.cons (TL.not (Wt.no rfl rfl rfl rfl) rfl ?_)
       refine TL.cons (TO.val rfl rfl rfl (Val.pickY rfl rfl rfl) ?_)
       refine TL.cons (TO.val rfl rfl rfl (Val.move rfl) ?_)
       refine TL.cons (TL.not (Wt.no rfl rfl rfl rfl) rfl ?_)
       refine TL.cons (TL.not (Wt.no rfl rfl rfl rfl) rfl ?_)
       refine TL.cons (TL.not (Wt.no rfl rfl rfl rfl) rfl ?_)
       refine TL.cons (TL.not (Wt.no rfl rfl rfl rfl) rfl ?_)
       refine TL.cons (TL.not (Wt.no rfl rfl rfl rfl) rfl ?_)
       refine TL.cons (TO.val rfl rfl rfl (Val.pickY rfl rfl rfl) ?_)
       refine TL.cons (TO.val rfl rfl rfl (Val.move rfl) ?_)
       refine TL.cons (TL.not (Wt.no rfl rfl rfl rfl) rfl ?_)
       refine TL.cons (TL.not (Wt.no rfl rfl rfl rfl) rfl ?_)
       refine TL.cons (TL.not (Wt.no rfl rfl rfl rfl) rfl ?_)
       refine TL.cons (TL.not (Wt.no rfl rfl rfl rfl) rfl ?_)
       refine TL.cons (TL.not (Wt.no rfl rfl rfl rfl) rfl ?_)
       refine TL.cons (TO.val rfl rfl rfl (Val.pickY rfl rfl rfl) ?_)
       refine TL.nil ?_
       exact fun a W hF hO => ⟨true, G36, h, e37, hF.sub ⟨rfl, rfl, rfl, rfl, rfl, trivial⟩, hO.selT (Ls := [Blk b47 [.slice A44 y42.1.f0.length c45, .int .i64 y42.1.f1, .int .i64 y42.1.f2, .int .i64 y42.1.f3, .int .i64 y42.1.f4] 28, Blk b59 [.slice A56 y54.1.f0.length c57, .int .i64 y54.1.f1, .int .i64 y54.1.f2, .int .i64 y54.1.f3, .int .i64 y54.1.f4] 28, Row (Kd.int .i64) 3 (.slice A44 y42.1.f0.length c45) y42.1.f0, Row (Kd.int .i64) 3 (.slice A56 y54.1.f0.length c57) y54.1.f0]) [4, 0, 5, 1] 6 rfl rfl rfl⟩
      ·
       have hk258 : (!decide (y54.2 = 0)) = false := (by simpa using hg256)
       refine TL.cons (TO.val (Wt.yes rfl rfl rfl hk258) rfl rfl (Val.loadsB 4 (cs := [.slice A44 y42.1.f0.length c45, .int .i64 y42.1.f1, .int .i64 y42.1.f2, .int .i64 y42.1.f3, .int .i64 y42.1.f4]) agg28 fsz28 rfl rfl rfl rfl) ?_)
       refine TL.cons (TO.val (Wt.yes rfl rfl rfl hk258) rfl rfl (Val.loadsB 2 (cs := [.slice A50 y48.1.f0.length c51, .int .i64 y48.1.f1, .int .i64 y48.1.f2, .int .i64 y48.1.f3, .int .i64 y48.1.f4]) agg28 fsz28 rfl rfl rfl rfl) ?_)
       refine TK.sel (Ls := [Row (Kd.int .i64) 3 (.slice A44 y42.1.f0.length c45) y42.1.f0, Blk b59 [.slice A56 y54.1.f0.length c57, .int .i64 y54.1.f1, .int .i64 y54.1.f2, .int .i64 y54.1.f3, .int .i64 y54.1.f4] 28, Row (Kd.int .i64) 3 (.slice A56 y54.1.f0.length c57) y54.1.f0, Blk b53 [.slice A50 y48.1.f0.length c51, .int .i64 y48.1.f1, .int .i64 y48.1.f2, .int .i64 y48.1.f3, .int .i64 y48.1.f4] 28, Row (Kd.int .i64) 3 (.slice A50 y48.1.f0.length c51) y48.1.f0, Blk b47 [.slice A44 y42.1.f0.length c45, .int .i64 y42.1.f1, .int .i64 y42.1.f2, .int .i64 y42.1.f3, .int .i64 y42.1.f4] 28]) [5, 0, 1, 2, 3, 4] 6 rfl rfl rfl ?_
       refine TK.share (fun G259 e260 hs261 hb262 => ?_)
       have rd263 : Rd G259 (Kd.int .i64) A44 y42.1.f0 := Rd.row hs261
       have le264 : y42.1.f0.length ≤ c45 := Row.le hs261
       refine TK.sel (Ls := [Row (Kd.int .i64) 3 (.slice A50 y48.1.f0.length c51) y48.1.f0, Blk b59 [.slice A56 y54.1.f0.length c57, .int .i64 y54.1.f1, .int .i64 y54.1.f2, .int .i64 y54.1.f3, .int .i64 y54.1.f4] 28, Row (Kd.int .i64) 3 (.slice A56 y54.1.f0.length c57) y54.1.f0, Blk b53 [.slice A50 y48.1.f0.length c51, .int .i64 y48.1.f1, .int .i64 y48.1.f2, .int .i64 y48.1.f3, .int .i64 y48.1.f4] 28, Blk b47 [.slice A44 y42.1.f0.length c45, .int .i64 y42.1.f1, .int .i64 y42.1.f2, .int .i64 y42.1.f3, .int .i64 y42.1.f4] 28]) [3, 0, 1, 2, 4] 5 rfl rfl rfl ?_
       refine TK.share (fun G265 e266 hs267 hb268 => ?_)
       have rd269 : Rd G265 (Kd.int .i64) A50 y48.1.f0 := Rd.row hs267
       have le270 : y48.1.f0.length ≤ c51 := Row.le hs267
       obtain ⟨y271, hy272, h⟩ := bind_no h
       refine TL.cons (TL.callV (Lin := []) (args := [.agg #[.slice A44 y42.1.f0.length c45, .int .i64 y42.1.f1, .int .i64 y42.1.f2, .int .i64 y42.1.f3, .int .i64 y42.1.f4], .agg #[.slice A50 y48.1.f0.length c51, .int .i64 y48.1.f1, .int .i64 y48.1.f2, .int .i64 y48.1.f3, .int .i64 y48.1.f4]]) (Wt.yes rfl rfl rfl hk258) rfl rfl hbd15 rfl rfl (trace_Prefix.calls (a0 := y42.1) (a1 := y48.1) (rd263.up e266) le264 rd269 le270 hy272) rfl ?_)
       rintro _ _ _ _ ⟨rfl, rfl, rfl⟩
       refine TL.cons (TO.val (Wt.yes rfl rfl rfl hk258) rfl rfl (Val.not_ rfl) ?_)
       refine TL.cons (TO.val rfl rfl rfl (Val.pickN rfl hk258 rfl) ?_)
       refine TL.cons (TO.val rfl rfl rfl (Val.move rfl) ?_)
       refine TK.split (p := (!y271) = true) h (fun hg273 h => ?_) (fun hg273 h => ?_)
       ·
        have hk274 : (!y271) = true := hg273
        refine TL.cons (TL.not (Wt.no rfl rfl rfl hk274) rfl ?_)
        refine TL.cons (TL.not (Wt.no rfl rfl rfl hk274) rfl ?_)
        refine TL.cons (TL.not (Wt.no rfl rfl rfl hk274) rfl ?_)
        refine TL.cons (TL.not (Wt.no rfl rfl rfl hk274) rfl ?_)
        refine TL.cons (TL.not rfl rfl ?_)
        refine TL.cons (TL.not rfl rfl ?_)
        refine TL.cons (TL.not rfl rfl ?_)
        refine TL.cons (TL.not rfl rfl ?_)
        refine TL.cons (TL.not (Wt.no rfl rfl rfl hk274) rfl ?_)
        refine TL.cons (TO.val rfl rfl rfl (Val.pickY rfl hk274 rfl) ?_)
        refine TL.cons (TO.val rfl rfl rfl (Val.move rfl) ?_)
        refine TL.cons (TL.not (Wt.no rfl rfl rfl rfl) rfl ?_)
        refine TL.cons (TL.not (Wt.no rfl rfl rfl rfl) rfl ?_)
        refine TL.cons (TL.not (Wt.no rfl rfl rfl rfl) rfl ?_)
        refine TL.cons (TL.not (Wt.no rfl rfl rfl rfl) rfl ?_)
        refine TL.cons (TL.not (Wt.no rfl rfl rfl rfl) rfl ?_)
        refine TL.cons (TO.val rfl rfl rfl (Val.pickY rfl rfl rfl) ?_)
        refine TL.cons (TO.val rfl rfl rfl (Val.move rfl) ?_)
        refine TL.cons (TL.not (Wt.no rfl rfl rfl rfl) rfl ?_)
        refine TL.cons (TL.not (Wt.no rfl rfl rfl rfl) rfl ?_)
        refine TL.cons (TL.not (Wt.no rfl rfl rfl rfl) rfl ?_)
        refine TL.cons (TL.not (Wt.no rfl rfl rfl rfl) rfl ?_)
        refine TL.cons (TL.not (Wt.no rfl rfl rfl rfl) rfl ?_)
        refine TL.cons (TO.val rfl rfl rfl (Val.pickY rfl rfl rfl) ?_)
        refine TL.nil ?_
        refine TQ.back hb268 ?_
        refine TQ.back hb262 ?_
        exact fun a W hF hO => ⟨true, G36, h, e37, hF.sub ⟨rfl, rfl, rfl, rfl, rfl, trivial⟩, hO.selT (Ls := [Blk b47 [.slice A44 y42.1.f0.length c45, .int .i64 y42.1.f1, .int .i64 y42.1.f2, .int .i64 y42.1.f3, .int .i64 y42.1.f4] 28, Blk b59 [.slice A56 y54.1.f0.length c57, .int .i64 y54.1.f1, .int .i64 y54.1.f2, .int .i64 y54.1.f3, .int .i64 y54.1.f4] 28, Row (Kd.int .i64) 3 (.slice A44 y42.1.f0.length c45) y42.1.f0, Row (Kd.int .i64) 3 (.slice A56 y54.1.f0.length c57) y54.1.f0]) [5, 2, 0, 3] 6 rfl rfl rfl⟩
       ·
        have hk275 : (!y271) = false := (by simpa using hg273)
        refine TL.cons (TO.val (Wt.yes rfl rfl rfl hk275) rfl rfl (Val.fieldAddrB Try.underlying28 rfl fsz26 rfl rfl rfl) ?_)
        refine TL.cons (TO.val (Wt.yes rfl rfl rfl hk275) rfl rfl (Val.loadB 3 agg26 rfl rfl rfl) ?_)
        refine TL.cons (TO.val (Wt.yes rfl rfl rfl hk275) rfl rfl (Val.cmp rfl rfl run_neq) ?_)
        refine TL.cons (TO.val (Wt.yes rfl rfl rfl hk275) rfl rfl (Val.move rfl) ?_)
        refine TK.split (p := (!decide (y42.1.f1 = 12)) = true) h (fun hg276 h => ?_) (fun hg276 h => ?_)
        ·
         have hk277 : (!decide (y42.1.f1 = 12)) = true := hg276
         refine TL.cons (TO.val (Wt.yes rfl rfl rfl hk277) rfl rfl (Val.loadsB 3 (cs := [.slice A44 y42.1.f0.length c45, .int .i64 y42.1.f1, .int .i64 y42.1.f2, .int .i64 y42.1.f3, .int .i64 y42.1.f4]) agg28 fsz28 rfl rfl rfl rfl) ?_)
         refine TL.cons (TO.val (Wt.yes rfl rfl rfl hk277) rfl rfl (Val.loadsB 2 (cs := [.slice A50 y48.1.f0.length c51, .int .i64 y48.1.f1, .int .i64 y48.1.f2, .int .i64 y48.1.f3, .int .i64 y48.1.f4]) agg28 fsz28 rfl rfl rfl rfl) ?_)
         obtain ⟨y278, hy279, h⟩ := bind_no h
         refine TL.cons (TL.callV (Lin := []) (args := [.agg #[.slice A44 y42.1.f0.length c45, .int .i64 y42.1.f1, .int .i64 y42.1.f2, .int .i64 y42.1.f3, .int .i64 y42.1.f4], .agg #[.slice A50 y48.1.f0.length c51, .int .i64 y48.1.f1, .int .i64 y48.1.f2, .int .i64 y48.1.f3, .int .i64 y48.1.f4]]) (Wt.yes rfl rfl rfl hk277) rfl rfl hbd17 rfl rfl (trace_Same.calls (a0 := y42.1) (a1 := y48.1) (rd263.up e266) le264 rd269 le270 hy279) rfl ?_)
         rintro _ _ _ _ ⟨rfl, rfl, rfl⟩
         refine TL.cons (TO.val (Wt.yes rfl rfl rfl hk277) rfl rfl (Val.not_ rfl) ?_)
         refine TL.cons (TO.val (Wt.yes rfl rfl rfl hk275) rfl rfl (Val.pickY rfl hk277 rfl) ?_)
         refine TL.cons (TO.val rfl rfl rfl (Val.pickN rfl hk275 rfl) ?_)
         refine TL.cons (TO.val rfl rfl rfl (Val.move rfl) ?_)
         refine TK.split (p := (!y278) = true) h (fun hg280 h => ?_) (fun hg280 h => ?_)
         ·
          have hk281 : (!y278) = true := hg280
          refine TL.cons (TL.not (Wt.no rfl rfl rfl hk281) rfl ?_)
          refine TL.cons (TL.not (Wt.no rfl rfl rfl hk281) rfl ?_)
          refine TL.cons (TL.not (Wt.no rfl rfl rfl hk281) rfl ?_)
          refine TL.cons (TL.not (Wt.no rfl rfl rfl hk281) rfl ?_)
          refine TL.cons (TL.not (Wt.no rfl rfl rfl hk281) rfl ?_)
          refine TL.cons (TO.val rfl rfl rfl (Val.pickY rfl hk281 rfl) ?_)
          refine TL.cons (TO.val rfl rfl rfl (Val.move rfl) ?_)
          refine TL.cons (TL.not (Wt.no rfl rfl rfl rfl) rfl ?_)
          refine TL.cons (TL.not (Wt.no rfl rfl rfl rfl) rfl ?_)
          refine TL.cons (TL.not (Wt.no rfl rfl rfl rfl) rfl ?_)
          refine TL.cons (TL.not (Wt.no rfl rfl rfl rfl) rfl ?_)
          refine TL.cons (TL.not (Wt.no rfl rfl rfl rfl) rfl ?_)
          refine TL.cons (TO.val rfl rfl rfl (Val.pickY rfl rfl rfl) ?_)
          refine TL.nil ?_
          refine TQ.back hb268 ?_
          refine TQ.back hb262 ?_
          exact fun a W hF hO => ⟨true, G36, h, e37, hF.sub ⟨rfl, rfl, rfl, rfl, rfl, trivial⟩, hO.selT (Ls := [Blk b47 [.slice A44 y42.1.f0.length c45, .int .i64 y42.1.f1, .int .i64 y42.1.f2, .int .i64 y42.1.f3, .int .i64 y42.1.f4] 28, Blk b59 [.slice A56 y54.1.f0.length c57, .int .i64 y54.1.f1, .int .i64 y54.1.f2, .int .i64 y54.1.f3, .int .i64 y54.1.f4] 28, Row (Kd.int .i64) 3 (.slice A44 y42.1.f0.length c45) y42.1.f0, Row (Kd.int .i64) 3 (.slice A56 y54.1.f0.length c57) y54.1.f0]) [5, 2, 0, 3] 6 rfl rfl rfl⟩
         ·
          have hk282 : (!y278) = false := (by simpa using hg280)
          refine TL.cons (TO.val (Wt.yes rfl rfl rfl hk282) rfl rfl (Val.fieldAddrB Try.underlying28 rfl fsz3 rfl rfl rfl) ?_)
          refine TL.cons (TO.val (Wt.yes rfl rfl rfl hk282) rfl rfl (Val.loadB 3 agg3 rfl rfl rfl) ?_)
          refine TL.cons (TO.val (Wt.yes rfl rfl rfl hk282) rfl rfl (Val.fieldAddrB Try.underlying28 rfl fsz3 rfl rfl rfl) ?_)
          refine TL.cons (TO.val (Wt.yes rfl rfl rfl hk282) rfl rfl (Val.loadB 2 agg3 rfl rfl rfl) ?_)
          refine TL.cons (TO.val (Wt.yes rfl rfl rfl hk282) rfl rfl (Val.cmp rfl rfl run_gtr) ?_)
          refine TL.cons (TO.val rfl rfl rfl (Val.pickN rfl hk282 rfl) ?_)
          refine TL.cons (TO.val rfl rfl rfl (Val.move rfl) ?_)
          refine TK.split (p := y48.1.f2 < y42.1.f2) h (fun hg283 h => ?_) (fun hg283 h => ?_)
          ·
           have hk284 : decide (y48.1.f2 < y42.1.f2) = true := decide_eq_true hg283
           refine TL.cons (TL.not (Wt.no rfl rfl rfl hk284) rfl ?_)
           refine TL.cons (TL.not (Wt.no rfl rfl rfl hk284) rfl ?_)
           refine TL.cons (TL.not (Wt.no rfl rfl rfl hk284) rfl ?_)
           refine TL.cons (TL.not (Wt.no rfl rfl rfl hk284) rfl ?_)
           refine TL.cons (TL.not (Wt.no rfl rfl rfl hk284) rfl ?_)
           refine TL.cons (TO.val rfl rfl rfl (Val.pickY rfl hk284 rfl) ?_)
           refine TL.nil ?_
           refine TQ.back hb268 ?_
           refine TQ.back hb262 ?_
           exact fun a W hF hO => ⟨true, G36, h, e37, hF.sub ⟨rfl, rfl, rfl, rfl, rfl, trivial⟩, hO.selT (Ls := [Blk b47 [.slice A44 y42.1.f0.length c45, .int .i64 y42.1.f1, .int .i64 y42.1.f2, .int .i64 y42.1.f3, .int .i64 y42.1.f4] 28, Blk b59 [.slice A56 y54.1.f0.length c57, .int .i64 y54.1.f1, .int .i64 y54.1.f2, .int .i64 y54.1.f3, .int .i64 y54.1.f4] 28, Row (Kd.int .i64) 3 (.slice A44 y42.1.f0.length c45) y42.1.f0, Row (Kd.int .i64) 3 (.slice A56 y54.1.f0.length c57) y54.1.f0]) [5, 2, 0, 3] 6 rfl rfl rfl⟩
          ·
           have hk285 : decide (y48.1.f2 < y42.1.f2) = false := decide_eq_false hg283
           refine TL.cons (TO.val (Wt.yes rfl rfl rfl hk285) rfl rfl (Val.fieldAddrB Try.underlying28 rfl fsz3 rfl rfl rfl) ?_)
           refine TL.cons (TO.val (Wt.yes rfl rfl rfl hk285) rfl rfl (Val.loadB 3 agg3 rfl rfl rfl) ?_)
           refine TL.cons (TO.val (Wt.yes rfl rfl rfl hk285) rfl rfl (Val.fieldAddrB Try.underlying28 rfl fsz3 rfl rfl rfl) ?_)
           refine TL.cons (TO.val (Wt.yes rfl rfl rfl hk285) rfl rfl (Val.loadB 2 agg3 rfl rfl rfl) ?_)
           refine TL.cons (TO.val (Wt.yes rfl rfl rfl hk285) rfl rfl (Val.cmp rfl rfl run_gtr) ?_)
           refine TL.cons (TO.val rfl rfl rfl (Val.pickN rfl hk285 rfl) ?_)
           refine TL.nil ?_
           refine TQ.back hb268 ?_
           refine TQ.back hb262 ?_
           exact fun a W hF hO => ⟨decide (y48.1.f3 < y42.1.f3), G36, h, e37, hF.sub ⟨rfl, rfl, rfl, rfl, rfl, trivial⟩, hO.selT (Ls := [Blk b47 [.slice A44 y42.1.f0.length c45, .int .i64 y42.1.f1, .int .i64 y42.1.f2, .int .i64 y42.1.f3, .int .i64 y42.1.f4] 28, Blk b59 [.slice A56 y54.1.f0.length c57, .int .i64 y54.1.f1, .int .i64 y54.1.f2, .int .i64 y54.1.f3, .int .i64 y54.1.f4] 28, Row (Kd.int .i64) 3 (.slice A44 y42.1.f0.length c45) y42.1.f0, Row (Kd.int .i64) 3 (.slice A56 y54.1.f0.length c57) y54.1.f0]) [5, 2, 0, 3] 6 rfl rfl rfl⟩
        ·
         have hk286 : (!decide (y42.1.f1 = 12)) = false := (by simpa using hg276)
         refine TL.cons (TL.not (Wt.no rfl rfl rfl hk286) rfl ?_)
         refine TL.cons (TL.not (Wt.no rfl rfl rfl hk286) rfl ?_)
         refine TL.cons (TL.not (Wt.no rfl rfl rfl hk286) rfl ?_)
         refine TL.cons (TL.not (Wt.no rfl rfl rfl hk286) rfl ?_)
         refine TL.cons (TO.val (Wt.yes rfl rfl rfl hk275) rfl rfl (Val.pickN rfl hk286 rfl) ?_)
         refine TL.cons (TO.val rfl rfl rfl (Val.pickN rfl hk275 rfl) ?_)
         refine TL.cons (TO.val rfl rfl rfl (Val.move rfl) ?_)
         refine TL.cons (TO.val (Wt.yes rfl rfl rfl rfl) rfl rfl (Val.fieldAddrB Try.underlying28 rfl fsz3 rfl rfl rfl) ?_)
         refine TL.cons (TO.val (Wt.yes rfl rfl rfl rfl) rfl rfl (Val.loadB 3 agg3 rfl rfl rfl) ?_)
         refine TL.cons (TO.val (Wt.yes rfl rfl rfl rfl) rfl rfl (Val.fieldAddrB Try.underlying28 rfl fsz3 rfl rfl rfl) ?_)
         refine TL.cons (TO.val (Wt.yes rfl rfl rfl rfl) rfl rfl (Val.loadB 2 agg3 rfl rfl rfl) ?_)
         refine TL.cons (TO.val (Wt.yes rfl rfl rfl rfl) rfl rfl (Val.cmp rfl rfl run_gtr) ?_)
         refine TL.cons (TO.val rfl rfl rfl (Val.pickN rfl rfl rfl) ?_)
         refine TL.cons (TO.val rfl rfl rfl (Val.move rfl) ?_)
         refine TK.split (p := y48.1.f2 < y42.1.f2) h (fun hg287 h => ?_) (fun hg287 h => ?_)
         ·
          have hk288 : decide (y48.1.f2 < y42.1.f2) = true := decide_eq_true hg287
          refine TL.cons (TL.not (Wt.no rfl rfl rfl hk288) rfl ?_)
          refine TL.cons (TL.not (Wt.no rfl rfl rfl hk288) rfl ?_)
          refine TL.cons (TL.not (Wt.no rfl rfl rfl hk288) rfl ?_)
          refine TL.cons (TL.not (Wt.no rfl rfl rfl hk288) rfl ?_)
          refine TL.cons (TL.not (Wt.no rfl rfl rfl hk288) rfl ?_)
          refine TL.cons (TO.val rfl rfl rfl (Val.pickY rfl hk288 rfl) ?_)
          refine TL.nil ?_
          refine TQ.back hb268 ?_
          refine TQ.back hb262 ?_
          exact fun a W hF hO => ⟨true, G36, h, e37, hF.sub ⟨rfl, rfl, rfl, rfl, rfl, trivial⟩, hO.selT (Ls := [Blk b47 [.slice A44 y42.1.f0.length c45, .int .i64 y42.1.f1, .int .i64 y42.1.f2, .int .i64 y42.1.f3, .int .i64 y42.1.f4] 28, Blk b59 [.slice A56 y54.1.f0.length c57, .int .i64 y54.1.f1, .int .i64 y54.1.f2, .int .i64 y54.1.f3, .int .i64 y54.1.f4] 28, Row (Kd.int .i64) 3 (.slice A44 y42.1.f0.length c45) y42.1.f0, Row (Kd.int .i64) 3 (.slice A56 y54.1.f0.length c57) y54.1.f0]) [5, 2, 0, 3] 6 rfl rfl rfl⟩
         ·
          have hk289 : decide (y48.1.f2 < y42.1.f2) = false := decide_eq_false hg287
          refine TL.cons (TO.val (Wt.yes rfl rfl rfl hk289) rfl rfl (Val.fieldAddrB Try.underlying28 rfl fsz3 rfl rfl rfl) ?_)
          refine TL.cons (TO.val (Wt.yes rfl rfl rfl hk289) rfl rfl (Val.loadB 3 agg3 rfl rfl rfl) ?_)
          refine TL.cons (TO.val (Wt.yes rfl rfl rfl hk289) rfl rfl (Val.fieldAddrB Try.underlying28 rfl fsz3 rfl rfl rfl) ?_)
          refine TL.cons (TO.val (Wt.yes rfl rfl rfl hk289) rfl rfl (Val.loadB 2 agg3 rfl rfl rfl) ?_)
          refine TL.cons (TO.val (Wt.yes rfl rfl rfl hk289) rfl rfl (Val.cmp rfl rfl run_gtr) ?_)
          refine TL.cons (TO.val rfl rfl rfl (Val.pickN rfl hk289 rfl) ?_)
          refine TL.nil ?_
          refine TQ.back hb268 ?_
          refine TQ.back hb262 ?_
          exact fun a W hF hO => ⟨decide (y48.1.f3 < y42.1.f3), G36, h, e37, hF.sub ⟨rfl, rfl, rfl, rfl, rfl, trivial⟩, hO.selT (Ls := [Blk b47 [.slice A44 y42.1.f0.length c45, .int .i64 y42.1.f1, .int .i64 y42.1.f2, .int .i64 y42.1.f3, .int .i64 y42.1.f4] 28, Blk b59 [.slice A56 y54.1.f0.length c57, .int .i64 y54.1.f1, .int .i64 y54.1.f2, .int .i64 y54.1.f3, .int .i64 y54.1.f4] 28, Row (Kd.int .i64) 3 (.slice A44 y42.1.f0.length c45) y42.1.f0, Row (Kd.int .i64) 3 (.slice A56 y54.1.f0.length c57) y54.1.f0]) [5, 2, 0, 3] 6 rfl rfl rfl⟩
 ·
  refine TC.region ?_
  refine TL.cons (TO.val rfl rfl rfl (Val.move rfl) ?_)
  refine TL.cons (TO.val rfl rfl rfl (Val.not_ rfl) ?_)
  refine TL.cons (TO.val rfl rfl rfl (Val.move rfl) ?_)
  refine TK.split (p := (!y13) = true) h (fun hg290 h => ?_) (fun hg290 h => ?_)
  ·
   have hk291 : (!y13) = true := hg290
   refine TL.cons (TL.not (Wt.no rfl rfl rfl hk291) rfl ?_)
   refine TL.cons (TL.not (Wt.no rfl rfl rfl hk291) rfl ?_)
   refine TL.cons (TO.val rfl rfl rfl (Val.pickY rfl hk291 rfl) ?_)
   refine TL.cons (TO.val rfl rfl rfl (Val.move rfl) ?_)
   refine TL.cons (TL.not (Wt.no rfl rfl rfl rfl) rfl ?_)
   refine TL.cons (TL.not (Wt.no rfl rfl rfl rfl) rfl ?_)
   refine TL.cons (TO.val rfl rfl rfl (Val.pickY rfl rfl rfl) ?_)
   refine TL.cons (TO.val rfl rfl rfl (Val.move rfl) ?_)
   refine TL.cons (TL.not (Wt.no rfl rfl rfl rfl) rfl ?_)
   refine TL.cons (TL.not (Wt.no rfl rfl rfl rfl) rfl ?_)
   refine TL.cons (TL.not (Wt.no rfl rfl rfl rfl) rfl ?_)
   refine TL.cons (TO.val rfl rfl rfl (Val.pickY rfl rfl rfl) ?_)
   refine TL.cons (TO.val rfl rfl rfl (Val.move rfl) ?_)
   refine TL.cons (TL.not (Wt.no rfl rfl rfl rfl) rfl ?_)
   refine TL.cons (TL.not (Wt.no rfl rfl rfl rfl) rfl ?_)
   refine TL.cons (TO.val rfl rfl rfl (Val.pickY rfl rfl rfl) ?_)
   refine TL.cons (TO.val rfl rfl rfl (Val.move rfl) ?_)
   refine TL.cons (TL.not (Wt.no rfl rfl rfl rfl) rfl ?_)
   refine TL.cons (TL.not (Wt.no rfl rfl rfl rfl) rfl ?_)
   refine TL.cons (TO.val rfl rfl rfl (Val.pickY rfl rfl rfl) ?_)
   refine TL.cons (TO.val rfl rfl rfl (Val.move rfl) ?_)
   refine TL.cons (TL.not (Wt.no rfl rfl rfl rfl) rfl ?_)
   refine TL.cons (TL.not (Wt.no rfl rfl rfl rfl) rfl ?_)
   refine TL.cons (TO.val rfl rfl rfl (Val.pickY rfl rfl rfl) ?_)
   refine TL.cons (TO.val rfl rfl rfl (Val.move rfl) ?_)
   refine TL.cons (TL.not (Wt.no rfl rfl rfl rfl) rfl ?_)
   refine TL.cons (TL.not (Wt.no rfl rfl rfl rfl) rfl ?_)
   refine TL.cons (TO.val rfl rfl rfl (Val.pickY rfl rfl rfl) ?_)
   refine TL.nil ?_
   exact fun a W hF hO => ⟨true, G11, h, e12, hF.sub ⟨rfl, rfl, rfl, rfl, rfl, rfl, rfl, trivial⟩, hO.selT (Ls := []) [] 0 rfl rfl rfl⟩
  ·
   have hk292 : (!y13) = false := (by simpa using hg290)
   refine TL.cons (TO.val (Wt.yes rfl rfl rfl hk292) rfl rfl (Val.move rfl) ?_)
   refine TL.cons (TO.val (Wt.yes rfl rfl rfl hk292) rfl rfl (Val.cmp rfl rfl run_lss) ?_)
   refine TL.cons (TO.val rfl rfl rfl (Val.pickN rfl hk292 rfl) ?_)
   refine TL.cons (TO.val rfl rfl rfl (Val.move rfl) ?_)
   refine TK.split (p := a1 < 1) h (fun hg293 h => ?_) (fun hg293 h => ?_)
   ·
    have hk294 : decide (a1 < 1) = true := decide_eq_true hg293
    refine TL.cons (TL.not (Wt.no rfl rfl rfl hk294) rfl ?_)
    refine TL.cons (TL.not (Wt.no rfl rfl rfl hk294) rfl ?_)
    refine TL.cons (TO.val rfl rfl rfl (Val.pickY rfl hk294 rfl) ?_)
    refine TL.cons (TO.val rfl rfl rfl (Val.move rfl) ?_)
    refine TL.cons (TL.not (Wt.no rfl rfl rfl rfl) rfl ?_)
    refine TL.cons (TL.not (Wt.no rfl rfl rfl rfl) rfl ?_)
    refine TL.cons (TL.not (Wt.no rfl rfl rfl rfl) rfl ?_)
    refine TL.cons (TO.val rfl rfl rfl (Val.pickY rfl rfl rfl) ?_)
    refine TL.cons (TO.val rfl rfl rfl (Val.move rfl) ?_)
    refine TL.cons (TL.not (Wt.no rfl rfl rfl rfl) rfl ?_)
    refine TL.cons (TL.not (Wt.no rfl rfl rfl rfl) rfl ?_)
    refine TL.cons (TO.val rfl rfl rfl (Val.pickY rfl rfl rfl) ?_)
    refine TL.cons (TO.val rfl rfl rfl (Val.move rfl) ?_)
    refine TL.cons (TL.not (Wt.no rfl rfl rfl rfl) rfl ?_)
    refine TL.cons (TL.not (Wt.no rfl rfl rfl rfl) rfl ?_)
    refine TL.cons (TO.val rfl rfl rfl (Val.pickY rfl rfl rfl) ?_)
    refine TL.cons (TO.val rfl rfl rfl (Val.move rfl) ?_)
    refine TL.cons (TL.not (Wt.no rfl rfl rfl rfl) rfl ?_)
    refine TL.cons (TL.not (Wt.no rfl rfl rfl rfl) rfl ?_)
    refine TL.cons (TO.val rfl rfl rfl (Val.pickY rfl rfl rfl) ?_)
    refine TL.cons (TO.val rfl rfl rfl (Val.move rfl) ?_)
    refine TL.cons (TL.not (Wt.no rfl rfl rfl rfl) rfl ?_)
    refine TL.cons (TL.not (Wt.no rfl rfl rfl rfl) rfl ?_)
    refine TL.cons (TO.val rfl rfl rfl (Val.pickY rfl rfl rfl) ?_)
    refine TL.nil ?_
    exact fun a W hF hO => ⟨true, G11, h, e12, hF.sub ⟨rfl, rfl, rfl, rfl, rfl, rfl, rfl, trivial⟩, hO.selT (Ls := []) [] 0 rfl rfl rfl⟩
   ·
    have hk295 : decide (a1 < 1) = false := decide_eq_false hg293
    refine TL.cons (TO.val (Wt.yes rfl rfl rfl hk295) rfl rfl (Val.move rfl) ?_)
    refine TL.cons (TO.val (Wt.yes rfl rfl rfl hk295) rfl rfl (Val.cmp rfl rfl run_gtr) ?_)
    refine TL.cons (TO.val rfl rfl rfl (Val.pickN rfl hk295 rfl) ?_)
    refine TL.cons (TO.val rfl rfl rfl (Val.move rfl) ?_)
    refine TK.split (p := 2048 < a1) h (fun hg296 h => ?_) (fun hg296 h => ?_)
    ·
     have hk297 : decide (2048 < a1) = true := decide_eq_true hg296
     refine TL.cons (TL.not (Wt.no rfl rfl rfl hk297) rfl ?_)
     refine TL.cons (TL.not (Wt.no rfl rfl rfl hk297) rfl ?_)
     refine TL.cons (TL.not (Wt.no rfl rfl rfl hk297) rfl ?_)
     refine TL.cons (TO.val rfl rfl rfl (Val.pickY rfl hk297 rfl) ?_)
     refine TL.cons (TO.val rfl rfl rfl (Val.move rfl) ?_)
     refine TL.cons (TL.not (Wt.no rfl rfl rfl rfl) rfl ?_)
     refine TL.cons (TL.not (Wt.no rfl rfl rfl rfl) rfl ?_)
     refine TL.cons (TO.val rfl rfl rfl (Val.pickY rfl rfl rfl) ?_)
     refine TL.cons (TO.val rfl rfl rfl (Val.move rfl) ?_)
     refine TL.cons (TL.not (Wt.no rfl rfl rfl rfl) rfl ?_)
     refine TL.cons (TL.not (Wt.no rfl rfl rfl rfl) rfl ?_)
     refine TL.cons (TO.val rfl rfl rfl (Val.pickY rfl rfl rfl) ?_)
     refine TL.cons (TO.val rfl rfl rfl (Val.move rfl) ?_)
     refine TL.cons (TL.not (Wt.no rfl rfl rfl rfl) rfl ?_)
     refine TL.cons (TL.not (Wt.no rfl rfl rfl rfl) rfl ?_)
     refine TL.cons (TO.val rfl rfl rfl (Val.pickY rfl rfl rfl) ?_)
     refine TL.cons (TO.val rfl rfl rfl (Val.move rfl) ?_)
     refine TL.cons (TL.not (Wt.no rfl rfl rfl rfl) rfl ?_)
     refine TL.cons (TL.not (Wt.no rfl rfl rfl rfl) rfl ?_)
     refine TL.cons (TO.val rfl rfl rfl (Val.pickY rfl rfl rfl) ?_)
     refine TL.nil ?_
     exact fun a W hF hO => ⟨true, G11, h, e12, hF.sub ⟨rfl, rfl, rfl, rfl, rfl, rfl, rfl, trivial⟩, hO.selT (Ls := []) [] 0 rfl rfl rfl⟩
    ·
     have hk298 : decide (2048 < a1) = false := decide_eq_false hg296
     refine TL.cons (TO.val (Wt.yes rfl rfl rfl hk298) rfl rfl (Val.move rfl) ?_)
     refine TL.cons (TO.val (Wt.yes rfl rfl rfl hk298) rfl rfl (Val.len Try.underlying23 rfl) ?_)
     refine TL.cons (TO.val (Wt.yes rfl rfl rfl hk298) rfl rfl (Val.cmp rfl rfl run_gtr) ?_)
     refine TL.cons (TO.val rfl rfl rfl (Val.pickN rfl hk298 rfl) ?_)
     refine TL.cons (TO.val rfl rfl rfl (Val.move rfl) ?_)
     refine TK.split (p := 100 < (a2.length : Int)) h (fun hg299 h => ?_) (fun hg299 h => ?_)
     ·
      have hk300 : decide (100 < (a2.length : Int)) = true := decide_eq_true hg299
      refine TL.cons (TL.not (Wt.no rfl rfl rfl hk300) rfl ?_)
      refine TL.cons (TL.not (Wt.no rfl rfl rfl hk300) rfl ?_)
      refine TL.cons (TO.val rfl rfl rfl (Val.pickY rfl hk300 rfl) ?_)
      refine TL.cons (TO.val rfl rfl rfl (Val.move rfl) ?_)
      refine TL.cons (TL.not (Wt.no rfl rfl rfl rfl) rfl ?_)
      refine TL.cons (TL.not (Wt.no rfl rfl rfl rfl) rfl ?_)
      refine TL.cons (TO.val rfl rfl rfl (Val.pickY rfl rfl rfl) ?_)
      refine TL.cons (TO.val rfl rfl rfl (Val.move rfl) ?_)
      refine TL.cons (TL.not (Wt.no rfl rfl rfl rfl) rfl ?_)
      refine TL.cons (TL.not (Wt.no rfl rfl rfl rfl) rfl ?_)
      refine TL.cons (TO.val rfl rfl rfl (Val.pickY rfl rfl rfl) ?_)
      refine TL.cons (TO.val rfl rfl rfl (Val.move rfl) ?_)
      refine TL.cons (TL.not (Wt.no rfl rfl rfl rfl) rfl ?_)
      refine TL.cons (TL.not (Wt.no rfl rfl rfl rfl) rfl ?_)
      refine TL.cons (TO.val rfl rfl rfl (Val.pickY rfl rfl rfl) ?_)
      refine TL.nil ?_
      exact fun a W hF hO => ⟨true, G11, h, e12, hF.sub ⟨rfl, rfl, rfl, rfl, rfl, rfl, rfl, trivial⟩, hO.selT (Ls := []) [] 0 rfl rfl rfl⟩
     ·
      have hk301 : decide (100 < (a2.length : Int)) = false := decide_eq_false hg299
      refine TL.cons (TO.val (Wt.yes rfl rfl rfl hk301) rfl rfl (Val.move rfl) ?_)
      refine TL.cons (TO.val (Wt.yes rfl rfl rfl hk301) rfl rfl (Val.cmp rfl rfl run_lss) ?_)
      refine TL.cons (TO.val rfl rfl rfl (Val.pickN rfl hk301 rfl) ?_)
      refine TL.cons (TO.val rfl rfl rfl (Val.move rfl) ?_)
      refine TK.split (p := a3 < 0) h (fun hg302 h => ?_) (fun hg302 h => ?_)
      ·
       have hk303 : decide (a3 < 0) = true := decide_eq_true hg302
       refine TL.cons (TL.not (Wt.no rfl rfl rfl hk303) rfl ?_)
       refine TL.cons (TL.not (Wt.no rfl rfl rfl hk303) rfl ?_)
       refine TL.cons (TO.val rfl rfl rfl (Val.pickY rfl hk303 rfl) ?_)
       refine TL.cons (TO.val rfl rfl rfl (Val.move rfl) ?_)
       refine TL.cons (TL.not (Wt.no rfl rfl rfl rfl) rfl ?_)
       refine TL.cons (TL.not (Wt.no rfl rfl rfl rfl) rfl ?_)
       refine TL.cons (TO.val rfl rfl rfl (Val.pickY rfl rfl rfl) ?_)
       refine TL.cons (TO.val rfl rfl rfl (Val.move rfl) ?_)
       refine TL.cons (TL.not (Wt.no rfl rfl rfl rfl) rfl ?_)
       refine TL.cons (TL.not (Wt.no rfl rfl rfl rfl) rfl ?_)
       refine TL.cons (TO.val rfl rfl rfl (Val.pickY rfl rfl rfl) ?_)
       refine TL.nil ?_
       exact fun a W hF hO => ⟨true, G11, h, e12, hF.sub ⟨rfl, rfl, rfl, rfl, rfl, rfl, rfl, trivial⟩, hO.selT (Ls := []) [] 0 rfl rfl rfl⟩
      ·
       have hk304 : decide (a3 < 0) = false := decide_eq_false hg302
       refine TL.cons (TO.val (Wt.yes rfl rfl rfl hk304) rfl rfl (Val.move rfl) ?_)
       refine TL.cons (TO.val (Wt.yes rfl rfl rfl hk304) rfl rfl (Val.cmp rfl rfl run_gtr) ?_)
       refine TL.cons (TO.val rfl rfl rfl (Val.pickN rfl hk304 rfl) ?_)
       refine TL.cons (TO.val rfl rfl rfl (Val.move rfl) ?_)
       refine TK.split (p := 3000 < a3) h (fun hg305 h => ?_) (fun hg305 h => ?_)
       ·
        have hk306 : decide (3000 < a3) = true := decide_eq_true hg305
        refine TL.cons (TL.not (Wt.no rfl rfl rfl hk306) rfl ?_)
        refine TL.cons (TL.not (Wt.no rfl rfl rfl hk306) rfl ?_)
        refine TL.cons (TO.val rfl rfl rfl (Val.pickY rfl hk306 rfl) ?_)
        refine TL.cons (TO.val rfl rfl rfl (Val.move rfl) ?_)
        refine TL.cons (TL.not (Wt.no rfl rfl rfl rfl) rfl ?_)
        refine TL.cons (TL.not (Wt.no rfl rfl rfl rfl) rfl ?_)
        refine TL.cons (TO.val rfl rfl rfl (Val.pickY rfl rfl rfl) ?_)
        refine TL.nil ?_
        exact fun a W hF hO => ⟨true, G11, h, e12, hF.sub ⟨rfl, rfl, rfl, rfl, rfl, rfl, rfl, trivial⟩, hO.selT (Ls := []) [] 0 rfl rfl rfl⟩
       ·
        have hk307 : decide (3000 < a3) = false := decide_eq_false hg305
        refine TL.cons (TO.val (Wt.yes rfl rfl rfl hk307) rfl rfl (Val.move rfl) ?_)
        refine TL.cons (TO.val (Wt.yes rfl rfl rfl hk307) rfl rfl (Val.cmp rfl rfl run_lss) ?_)
        refine TL.cons (TO.val rfl rfl rfl (Val.pickN rfl hk307 rfl) ?_)
        refine TL.cons (TO.val rfl rfl rfl (Val.move rfl) ?_)
        refine TK.split (p := a4 < 0) h (fun hg308 h => ?_) (fun hg308 h => ?_)
        ·
         have hk309 : decide (a4 < 0) = true := decide_eq_true hg308
         refine TL.cons (TL.not (Wt.no rfl rfl rfl hk309) rfl ?_)
         refine TL.cons (TL.not (Wt.no rfl rfl rfl hk309) rfl ?_)
         refine TL.cons (TO.val rfl rfl rfl (Val.pickY rfl hk309 rfl) ?_)
         refine TL.nil ?_
         exact fun a W hF hO => ⟨true, G11, h, e12, hF.sub ⟨rfl, rfl, rfl, rfl, rfl, rfl, rfl, trivial⟩, hO.selT (Ls := []) [] 0 rfl rfl rfl⟩
        ·
         have hk310 : decide (a4 < 0) = false := decide_eq_false hg308
         refine TL.cons (TO.val (Wt.yes rfl rfl rfl hk310) rfl rfl (Val.move rfl) ?_)
         refine TL.cons (TO.val (Wt.yes rfl rfl rfl hk310) rfl rfl (Val.cmp rfl rfl run_gtr) ?_)
         refine TL.cons (TO.val rfl rfl rfl (Val.pickN rfl hk310 rfl) ?_)
         refine TL.nil ?_
         exact fun a W hF hO => ⟨decide (1000 < a4), G11, h, e12, hF.sub ⟨rfl, rfl, rfl, rfl, rfl, rfl, rfl, trivial⟩, hO.selT (Ls := []) [] 0 rfl rfl rfl⟩
end Go.Proofs.Ytfmocegnpmomnaa.Sy
set_option linter.unusedVariables false
set_option linter.unusedSimpArgs false
namespace Go.Proofs.Ytfmocegnpmomnaa.Sy
open Go Go.RowKit Go.Proofs.YtfmocegnpmomnaaW.PrintWords Go.Proofs.Ytfmocegnpmomnaa.SyO
theorem tv_inj {v e v' e' : Int} {s s' : Ts} (h : (some (tv v e s) : Option _) = some (tv v' e' s')) : v = v' ∧ e = e' ∧ s = s' := by
  obtain ⟨⟩ := s; obtain ⟨⟩ := s'
  simp only [tv, Option.some.injEq, Prod.mk.injEq] at h
  obtain ⟨rfl, rfl, rfl, rfl, rfl, rfl, rfl, rfl, rfl, rfl, rfl⟩ := h
  exact ⟨rfl, rfl, rfl⟩
theorem tb_inj {e e' : Int} {s s' : Ts} {r r' : List Int} (h : (some (tb e s r) : Option _) = some (tb e' s' r')) : e = e' ∧ s = s' ∧ r = r' := by
  obtain ⟨⟩ := s; obtain ⟨⟩ := s'
  simp only [tb, Option.some.injEq, Prod.mk.injEq] at h
  obtain ⟨rfl, rfl, rfl, rfl, rfl, rfl, rfl, rfl, rfl, rfl, rfl⟩ := h
  exact ⟨rfl, rfl, rfl⟩
abbrev Bl (n : Nat) (l : List S45) (fl : Int) (b : S42) (N : Nat) (i : Int) (s : Ts) (r : List Int) := trace_runner_block.l0 (trace_runner_call.fix n).2.2 l fl 0 b N r i s.i s.f s.d s.o s.ld s.st s.c s.m s.h
section
variable {n : Nat} {l : List S45} {fl : Int} {b : S42} {N : Nat} {i : Int} {s : Ts} {r : List Int} {o : S37}
theorem b_lo (hlt : i < (b.f0.length : Int)) (hat : at? b.f0 i = some o) (hf : s.f < 1) : Bl n l fl b (N + 1) i s r = some (.inl (tb 12 s r)) := by
  show trace_runner_block.l0 (trace_runner_call.fix n).2.2 l fl 0 b (N + 1) r i s.i s.f s.d s.o s.ld s.st s.c s.m s.h = _
  rw [trace_runner_block.l0, if_pos hlt, hat, Option.bind_some, pay_lo hf, Option.bind_some, if_pos (show (!decide ((12 : Int) = 0)) = true by decide)]
theorem b_hi {v e : Int} {s' : Ts} (hlt : i < (b.f0.length : Int)) (hat : at? b.f0 i = some o) (hf : ¬ s.f < 1) (h1 : s.f ≤ 100000) (hv : Vf n l fl (less s) o r = some (tv v e s')) (he : ¬ e = 0) : Bl n l fl b (N + 1) i s r = some (.inl (tb e s' r)) := by
  show trace_runner_block.l0 (trace_runner_call.fix n).2.2 l fl 0 b (N + 1) r i s.i s.f s.d s.o s.ld s.st s.c s.m s.h = _
  have e1' : (trace_runner_call.fix n).2.2 l s.m s.h fl s.i (s.f - 1) s.d s.o 0 s.ld s.st s.c o r = some (tv v e s') := hv
  rw [trace_runner_block.l0, if_pos hlt, hat, Option.bind_some, pay_hi hf h1, Option.bind_some, if_neg (show ¬ (!decide ((0 : Int) = 0)) = true by decide), e1', Option.bind_some]
  simp only [jn]
  rw [if_pos (by simp [he])]
theorem b_go {v : Int} {s' : Ts} (hlt : i < (b.f0.length : Int)) (hat : at? b.f0 i = some o) (hw : IntKind.i64.wrap (i + 1) = i + 1) (hf : ¬ s.f < 1) (h1 : s.f ≤ 100000) (hv : Vf n l fl (less s) o r = some (tv v 0 s')) (ho : 0 ≤ o.f1) (ho1 : o.f1 < (r.length : Int)) : Bl n l fl b (N + 1) i s r = Bl n l fl b N (i + 1) s' (if o.f1 = 0 then r else r.set o.f1.toNat v) := by
  show trace_runner_block.l0 (trace_runner_call.fix n).2.2 l fl 0 b (N + 1) r i s.i s.f s.d s.o s.ld s.st s.c s.m s.h = trace_runner_block.l0 (trace_runner_call.fix n).2.2 l fl 0 b N _ (i + 1) s'.i s'.f s'.d s'.o s'.ld s'.st s'.c s'.m s'.h
  have e1' : (trace_runner_call.fix n).2.2 l s.m s.h fl s.i (s.f - 1) s.d s.o 0 s.ld s.st s.c o r = some (tv v 0 s') := hv
  rw [trace_runner_block.l0, if_pos hlt, hat, Option.bind_some, pay_hi hf h1, Option.bind_some, if_neg (show ¬ (!decide ((0 : Int) = 0)) = true by decide), e1', Option.bind_some]
  simp only [jn]
  rw [if_neg (show ¬ (!decide True) = true by decide), hw]
  by_cases h0 : o.f1 = 0
  · rw [if_neg (by simp [h0]), if_pos h0]
  · obtain ⟨y, hy⟩ := at_ok (r := r) (i := o.f1) ho ho1
    rw [if_pos (by simp [h0]), hy, Option.bind_some, if_neg h0]
end
/-- What a block's loop comes to. -/
def BO (B fl : Int) (z : Nat) (s : Ts) (q : Option (Sum (Int × List Int × Int × List Int × Int × Int × List Int × Int × Int × Int × List Int) (List Int × Int × Int × List Int × Int × Int × Int × List Int × Int × List Int))) : Prop :=
  (∃ e s' r', ¬ e = 0 ∧ q = some (.inl (tb e s' r')) ∧ Iv B fl s' ∧ Gs 0 s s' ∧ r'.length = z + 1) ∨ (∃ s' r', q = some (.inr (tr s' r')) ∧ Iv B fl s' ∧ Gs 0 s s' ∧ r'.length = z + 1)
theorem BO.after {B fl : Int} {z : Nat} {s s1 : Ts} {q} (h : BO B fl z s1 q) (g : Gs 0 s s1) : BO B fl z s q := by
  rcases h with ⟨e, s', r', a, b, c, d, f⟩ | ⟨s', r', b, c, d, f⟩
  · exact .inl ⟨e, s', r', a, b, c, g.trans d, f⟩
  · exact .inr ⟨s', r', b, c, g.trans d, f⟩
theorem set_len {r : List Int} {z : Nat} {o : S37} {v : Int} (hr : r.length = z + 1) : (if o.f1 = 0 then r else r.set o.f1.toNat v).length = z + 1 := by
  split <;> simp [hr]
theorem blk_one {l : List S45} {fl : Int} {n : Nat} (hv : ValueP l fl n) {B d : Int} {z : Nat} {b : S42} {o : S37} {i : Int} {N : Nat} (hB : B ≤ 90000) (hn : 3 * (1000 - d) + 2 ≤ (n : Int)) (hlt : i < (b.f0.length : Int)) (hat : at? b.f0 i = some o) (hw : IntKind.i64.wrap (i + 1) = i + 1) (ho : Oz z o) (hoc : Oc l o)
    (ih : ∀ (s : Ts) (r : List Int), Iv B fl s → s.d = d → r.length = z + 1 → BO B fl z s (Bl n l fl b N (i + 1) s r)) (s : Ts) (r : List Int) (hI : Iv B fl s) (hd : s.d = d) (hr : r.length = z + 1) : BO B fl z s (Bl n l fl b (N + 1) i s r) := by
  by_cases hf : s.f < 1
  · exact .inl ⟨12, s, r, by decide, b_lo hlt hat hf, hI, Gs.refl s (by omega), hr⟩
  · have hfB := hI.fB
    obtain ⟨v, e, s', e1, e2, e3⟩ := hv (B - 1) (less s) z o r (hI.less hf) (by omega) ho hoc hr (by show 3 * (1000 - s.d) + 2 ≤ (n : Int); omega)
    have e2' : Iv B fl s' := by have := e2; rwa [Int.sub_add_cancel] at this
    have e3' : Gs 0 s s' := (Gs.less s).trans e3
    by_cases he : e = 0
    · subst he
      have hdd := ho.dst
      rw [b_go hlt hat hw hf (by omega) e1 (dst0 ho.ro) (by omega)]
      exact (ih s' _ e2' (e3'.d.trans hd) (set_len hr)).after e3'
    · exact .inl ⟨e, s', r, he, b_hi hlt hat hf (by omega) e1 he, e2', e3', hr⟩
/-- What two block loops come to. -/
def BR (fl fl' m B d : Int) (z : Nat) (q q' : Option (Sum (Int × List Int × Int × List Int × Int × Int × List Int × Int × Int × Int × List Int) (List Int × Int × Int × List Int × Int × Int × Int × List Int × Int × List Int))) : Prop :=
  (∃ e s' u' r', ¬ e = 0 ∧ q = some (.inl (tb e s' r')) ∧ q' = some (.inl (tb e u' r')) ∧ Rl m s' u') ∨
  (∃ e s' r' u', Dv fl fl' m e ∧ q = some (.inl (tb e s' r')) ∧ Ex s' u' ∧ BO (B + m) fl' z u' q') ∨
  (∃ s' u' r', q = some (.inr (tr s' r')) ∧ q' = some (.inr (tr u' r')) ∧ Rl m s' u' ∧ Iv B fl s' ∧ Iv (B + m) fl' u' ∧ s'.d = d)
theorem Rl.less {m : Int} {s u : Ts} (h : Rl m s u) : Rl m (less s) (less u) := { h with f := by show u.f - 1 = s.f - 1 + m; have := h.f; omega }
theorem blk_two {l : List S45} {fl fl' m : Int} {n : Nat} (hv : ValueP l fl n) (hv' : ValueP l fl' n) (hR : ValueR l fl fl' m n) {B d : Int} {z : Nat} {b : S42} {o : S37} {i : Int} {N : Nat} (hm0 : 0 ≤ m) (hB : B + m ≤ 90000) (hn : 3 * (1000 - d) + 2 ≤ (n : Int)) (hlt : i < (b.f0.length : Int)) (hat : at? b.f0 i = some o) (hw : IntKind.i64.wrap (i + 1) = i + 1) (ho : Oz z o) (hoc : Oc l o)
    (ih1 : ∀ (s : Ts) (r : List Int), Iv (B + m) fl' s → s.d = d → r.length = z + 1 → BO (B + m) fl' z s (Bl n l fl' b N (i + 1) s r))
    (ih : ∀ (s u : Ts) (r : List Int), Iv B fl s → Iv (B + m) fl' u → Rl m s u → s.d = d → r.length = z + 1 → BR fl fl' m B d z (Bl n l fl b N (i + 1) s r) (Bl n l fl' b N (i + 1) u r))
    (s u : Ts) (r : List Int) (hI : Iv B fl s) (hJ : Iv (B + m) fl' u) (hS : Rl m s u) (hd : s.d = d) (hr : r.length = z + 1) : BR fl fl' m B d z (Bl n l fl b (N + 1) i s r) (Bl n l fl' b (N + 1) i u r) := by
  have hud : u.d = d := hS.d.trans hd
  have huf := hS.f
  have hsf := hI.f0
  by_cases hf : s.f < 1
  · by_cases hm : m = 0
    · exact .inl ⟨12, s, u, r, by decide, b_lo hlt hat hf, b_lo hlt hat (by omega), hS⟩
    · exact .inr (.inl ⟨12, s, r, u, .inl ⟨rfl, by omega⟩, b_lo hlt hat hf, hS.ex, blk_one hv' hB hn hlt hat hw ho hoc ih1 u r hJ hud hr⟩)
  · have hfB := hI.fB; have hfC := hJ.fB
    have huf' : ¬ u.f < 1 := by omega
    obtain ⟨v, e, s', e1, e2, e3⟩ := hv (B - 1) (Sy.less s) z o r (hI.less hf) (by omega) ho hoc hr (by show 3 * (1000 - s.d) + 2 ≤ (n : Int); omega)
    obtain ⟨v', e', u', f1, f2, f3⟩ := hv' (B + m - 1) (Sy.less u) z o r (hJ.less huf') (by omega) ho hoc hr (by show 3 * (1000 - u.d) + 2 ≤ (n : Int); omega)
    obtain ⟨w, g, s2, w', g', u2, q1, q2, q3⟩ := hR (B - 1) (Sy.less s) (Sy.less u) z o r (hI.less hf) (by have := hJ.less huf'; rwa [show B + m - 1 = B - 1 + m by omega] at this) hS.less (by omega) ho hoc hr (by show 3 * (1000 - s.d) + 2 ≤ (n : Int); omega)
    obtain ⟨rfl, rfl, rfl⟩ := tv_inj (e1.symm.trans q1)
    obtain ⟨rfl, rfl, rfl⟩ := tv_inj (f1.symm.trans q2)
    have e2' : Iv B fl s' := by have := e2; rwa [Int.sub_add_cancel] at this
    have f2' : Iv (B + m) fl' u' := by have := f2; rwa [Int.sub_add_cancel] at this
    have e3' : Gs 0 s s' := (Gs.less s).trans e3
    have f3' : Gs 0 u u' := (Gs.less u).trans f3
    have hdd := ho.dst
    rcases q3 with ⟨rfl, rfl, q3⟩ | ⟨q3, q4⟩
    · by_cases he : e = 0
      · subst he
        rw [b_go hlt hat hw hf (by omega) e1 (dst0 ho.ro) (by omega), b_go hlt hat hw huf' (by omega) f1 (dst0 ho.ro) (by omega)]
        exact ih s' u' _ e2' f2' q3 (e3'.d.trans hd) (set_len hr)
      · exact .inl ⟨e, s', u', r, he, b_hi hlt hat hf (by omega) e1 he, b_hi hlt hat huf' (by omega) f1 he, q3⟩
    · refine .inr (.inl ⟨e, s', r, u', q3, b_hi hlt hat hf (by omega) e1 q3.ne, q4, ?_⟩)
      by_cases he : e' = 0
      · subst he
        rw [b_go hlt hat hw huf' (by omega) f1 (dst0 ho.ro) (by omega)]
        exact ih1 u' _ f2' (f3'.d.trans hud) (set_len hr)
      · exact .inl ⟨e', u', r, he, b_hi hlt hat huf' (by omega) f1 he, f2', Gs.refl u' (by omega), hr⟩
theorem blks_two {l : List S45} {fl fl' m : Int} {n : Nat} (hv : ValueP l fl n) (hv' : ValueP l fl' n) (hR : ValueR l fl fl' m n) {B d : Int} {z : Nat} {b : S42} (hm0 : 0 ≤ m) (hB : B + m ≤ 90000) (hbl : b.f0.length ≤ 250) (hb : ∀ o ∈ b.f0, Oz z o ∧ Oc l o) (hn : 3 * (1000 - d) + 2 ≤ (n : Int))
    (s u : Ts) (r : List Int) (hI : Iv B fl s) (hJ : Iv (B + m) fl' u) (hS : Rl m s u) (hd : s.d = d) (hr : r.length = z + 1) : BR fl fl' m B d z (Bl n l fl b (b.f0.length + 1) 0 s r) (Bl n l fl' b (b.f0.length + 1) 0 u r) := by
  have := loopd (xs := b.f0) (F := fun N i => ((fun (s : Ts) (r : List Int) => Bl n l fl b N i s r), (fun (s : Ts) (r : List Int) => Bl n l fl' b N i s r)))
    (P := fun os f => (∀ (s : Ts) (r : List Int), Iv (B + m) fl' s → s.d = d → r.length = z + 1 → BO (B + m) fl' z s (f.2 s r)) ∧ (∀ (s u : Ts) (r : List Int), Iv B fl s → Iv (B + m) fl' u → Rl m s u → s.d = d → r.length = z + 1 → BR fl fl' m B d z (f.1 s r) (f.2 u r))) (by omega)
    (fun N => ⟨fun s r hI hd hr => .inr ⟨s, r, by simp [trace_runner_block.l0], hI, Gs.refl s (by omega), hr⟩, fun s u r hI hJ hS hd hr => .inr (.inr ⟨s, u, r, by simp [trace_runner_block.l0], by simp [trace_runner_block.l0], hS, hI, hJ, hd⟩)⟩)
    (fun N i o os hdr hlt hat hm hw ih => by
      obtain ⟨ih1, ih2⟩ := ih
      have hc : ((i + 1 : Nat) : Int) = (i : Int) + 1 := by omega
      rw [hc] at hw
      simp only [hc] at ih1 ih2
      exact ⟨fun s r hI hd hr => blk_one hv' hB hn hlt hat hw (hb o hm).1 (hb o hm).2 ih1 s r hI hd hr, fun s u r hI hJ hS hd hr => blk_two hv hv' hR hm0 hB hn hlt hat hw (hb o hm).1 (hb o hm).2 ih1 ih2 s u r hI hJ hS hd hr⟩) (b.f0.length + 1) (by omega)
  exact this.2 s u r hI hJ hS hd hr
section
variable {n : Nat} {l : List S45} {fl : Int} {b : S42} {s : Ts} {r : List Int}
theorem bf_l {e : Int} {s' : Ts} {r' : List Int} (h : Bl n l fl b (b.f0.length + 1) 0 s r = some (.inl (tb e s' r'))) : Bf (n + 1) l fl s b r = some (tb e s' r') := by
  show trace_runner_block.g (trace_runner_call.fix n).1 (trace_runner_call.fix n).2.1 (trace_runner_call.fix n).2.2 l s.m s.h fl s.i s.f s.d s.o 0 s.ld s.st s.c b r = _
  unfold trace_runner_block.g
  have h' : trace_runner_block.l0 (trace_runner_call.fix n).2.2 l fl 0 b (b.f0.length + 1) r 0 s.i s.f s.d s.o s.ld s.st s.c s.m s.h = _ := h
  rw [h', Option.bind_some]
theorem bf_lo {s' : Ts} {r' : List Int} (h : Bl n l fl b (b.f0.length + 1) 0 s r = some (.inr (tr s' r'))) (hf : s'.f < 1) : Bf (n + 1) l fl s b r = some (tb 12 s' r') := by
  show trace_runner_block.g (trace_runner_call.fix n).1 (trace_runner_call.fix n).2.1 (trace_runner_call.fix n).2.2 l s.m s.h fl s.i s.f s.d s.o 0 s.ld s.st s.c b r = _
  unfold trace_runner_block.g
  have h' : trace_runner_block.l0 (trace_runner_call.fix n).2.2 l fl 0 b (b.f0.length + 1) r 0 s.i s.f s.d s.o s.ld s.st s.c s.m s.h = _ := h
  rw [h', Option.bind_some]
  simp only []
  rw [pay_lo hf, Option.bind_some]
theorem bf_hi {s' : Ts} {r' : List Int} (h : Bl n l fl b (b.f0.length + 1) 0 s r = some (.inr (tr s' r'))) (hf : ¬ s'.f < 1) (h1 : s'.f ≤ 100000) : Bf (n + 1) l fl s b r = some (tb 0 (less s') r') := by
  show trace_runner_block.g (trace_runner_call.fix n).1 (trace_runner_call.fix n).2.1 (trace_runner_call.fix n).2.2 l s.m s.h fl s.i s.f s.d s.o 0 s.ld s.st s.c b r = _
  unfold trace_runner_block.g
  have h' : trace_runner_block.l0 (trace_runner_call.fix n).2.2 l fl 0 b (b.f0.length + 1) r 0 s.i s.f s.d s.o s.ld s.st s.c s.m s.h = _ := h
  rw [h', Option.bind_some]
  simp only []
  rw [pay_hi hf h1, Option.bind_some]
end
theorem block_sim {l : List S45} {fl fl' m : Int} {n : Nat} (hv : ValueP l fl n) (hv' : ValueP l fl' n) (hR : ValueR l fl fl' m n) (hm0 : 0 ≤ m) : BlockR l fl fl' m (n + 1) := by
  intro B s u z b r hI hJ hS hB hbl hb hr hn
  rcases blks_two hv hv' hR (d := s.d) hm0 hB hbl hb (by omega) s u r hI hJ hS rfl hr with ⟨e, s', u', r', _, q1, q2, q3⟩ | ⟨e, s', r', u', q1, q2, q3, q4⟩ | ⟨s', u', r', q1, q2, q3, q4, q5, q6⟩
  · exact ⟨e, s', r', e, u', r', bf_l q1, bf_l q2, .inl ⟨rfl, rfl, q3⟩⟩
  · rcases q4 with ⟨e2, u2, r2, _, k1, k2, k3, k4⟩ | ⟨u2, r2, k1, k2, k3, k4⟩
    · exact ⟨e, s', r', e2, u2, r2, bf_l q2, bf_l k1, .inr ⟨q1, q3.go k3⟩⟩
    · by_cases hf : u2.f < 1
      · exact ⟨e, s', r', 12, u2, r2, bf_l q2, bf_lo k1 hf, .inr ⟨q1, q3.go k3⟩⟩
      · exact ⟨e, s', r', 0, _, r2, bf_l q2, bf_hi k1 hf (by have := k2.fB; omega), .inr ⟨q1, (q3.go k3).go (Gs.less u2)⟩⟩
  · have h1 := q3.f
    have h2 := q4.f0
    by_cases hf : s'.f < 1
    · by_cases hm : m = 0
      · exact ⟨12, s', r', 12, u', r', bf_lo q1 hf, bf_lo q2 (by omega), .inl ⟨rfl, rfl, q3⟩⟩
      · by_cases hf' : u'.f < 1
        · exact ⟨12, s', r', 12, u', r', bf_lo q1 hf, bf_lo q2 hf', .inl ⟨rfl, rfl, q3⟩⟩
        · exact ⟨12, s', r', 0, _, r', bf_lo q1 hf, bf_hi q2 hf' (by have := q5.fB; omega), .inr ⟨.inl ⟨rfl, by omega⟩, q3.ex.go (Gs.less u')⟩⟩
    · exact ⟨0, _, r', 0, _, r', bf_hi q1 hf (by have := q4.fB; omega), bf_hi q2 (by omega) (by have := q5.fB; omega), .inl ⟨rfl, rfl, q3.less⟩⟩
abbrev Kl (n : Nat) (l : List S45) (fl : Int) (t : S45) (N : Nat) (x : Int) (s : Ts) (r : List Int) := trace_runner_call.l0 (trace_runner_call.fix n).2.1 l fl 0 t N r x s.i s.f s.d s.o s.ld s.st s.c s.m s.h
section
variable {n : Nat} {l : List S45} {fl : Int} {t : S45} {N : Nat} {x : Int} {s s' : Ts} {r r' : List Int} {y : S42} {e : Int}
theorem c_err (hy : at? t.f1 x = some y) (hb : Bf n l fl s y r = some (tb e s' r')) (he : ¬ e = 0) : Kl n l fl t (N + 1) x s r = some (tv 0 e (back s')) := by
  show trace_runner_call.l0 (trace_runner_call.fix n).2.1 l fl 0 t (N + 1) r x s.i s.f s.d s.o s.ld s.st s.c s.m s.h = _
  have q1' : (trace_runner_call.fix n).2.1 l s.m s.h fl s.i s.f s.d s.o 0 s.ld s.st s.c y r = some (tb e s' r') := hb
  rw [trace_runner_call.l0, hy, Option.bind_some, q1', Option.bind_some]
  simp only [jn]
  rw [if_pos (by simp [he])]
theorem c_ok {z : Nat} (hrt : Rt y.f1 t.f1.length) (hz : (y.f1.f0 = 2 ∨ y.f1.f0 = 3) → y.f1.f1 ≤ z) (hr : r'.length = z + 1) :
    (∃ x', 0 ≤ x' ∧ x' < (t.f1.length : Int) ∧ ∀ {fl : Int} {N : Nat} {x : Int} {s s' : Ts} {r : List Int}, at? t.f1 x = some y → Bf n l fl s y r = some (tb 0 s' r') → Kl n l fl t (N + 1) x s r = Kl n l fl t N x' s' r') ∨
    (∃ v e, ∀ {fl : Int} {N : Nat} {x : Int} {s s' : Ts} {r : List Int}, at? t.f1 x = some y → Bf n l fl s y r = some (tb 0 s' r') → Kl n l fl t (N + 1) x s r = some (tv v e (back s'))) := by
  have key : ∀ {fl : Int} {N : Nat} {x : Int} {s s' : Ts} {r : List Int}, at? t.f1 x = some y → Bf n l fl s y r = some (tb 0 s' r') → Kl n l fl t (N + 1) x s r = (if y.f1.f0 = 3 then (at? r' y.f1.f1).bind fun v => some (tv v 0 (back s')) else if y.f1.f0 = 4 then some (tv 0 y.f1.f2 (back s')) else if y.f1.f0 = 1 then Kl n l fl t N y.f1.f2 s' r' else (at? r' y.f1.f1).bind fun v => if v = 0 then Kl n l fl t N y.f1.f3 s' r' else Kl n l fl t N y.f1.f2 s' r') := by
    intro fl N x s s' r hy hb
    show trace_runner_call.l0 (trace_runner_call.fix n).2.1 l fl 0 t (N + 1) r x s.i s.f s.d s.o s.ld s.st s.c s.m s.h = _
    have q1' : (trace_runner_call.fix n).2.1 l s.m s.h fl s.i s.f s.d s.o 0 s.ld s.st s.c y r = some (tb 0 s' r') := hb
    rw [trace_runner_call.l0, hy, Option.bind_some, q1', Option.bind_some]
    simp only [jn]
    rw [if_neg (show ¬ (!decide True) = true by decide)]
    by_cases h3 : y.f1.f0 = 3
    · rw [if_pos h3, if_pos h3]
    · rw [if_neg h3, if_neg h3]
      by_cases h4 : y.f1.f0 = 4
      · rw [if_pos h4, if_pos h4]
      · rw [if_neg h4, if_neg h4]
        by_cases h1 : y.f1.f0 = 1
        · rw [if_pos h1, if_pos h1, if_pos trivial]
        · rw [if_neg h1, if_neg h1]
          cases hq : at? r' y.f1.f1 with
          | none => rfl
          | some v =>
            rw [Option.bind_some, Option.bind_some]
            by_cases hv : v = 0
            · rw [if_neg (by simp [hv]), if_pos hv]
            · rw [if_pos (by simp [hv]), if_neg hv]
  unfold Rt at hrt
  rcases hrt with h | h | h | h
  · refine .inl ⟨y.f1.f2, by omega, by omega, fun hy hb => ?_⟩
    rw [key hy hb, if_neg (by omega), if_neg (by omega), if_pos h.1]
  · have hz' := hz (.inl h.1)
    obtain ⟨u, hu⟩ := at_ok (r := r') (i := y.f1.f1) (by have := h.2.2.2.2.2.1; omega) (by omega)
    by_cases hu0 : u = 0
    · refine .inl ⟨y.f1.f3, by omega, by omega, fun hy hb => ?_⟩
      rw [key hy hb, if_neg (by omega), if_neg (by omega), if_neg (by omega), hu, Option.bind_some, if_pos hu0]
    · refine .inl ⟨y.f1.f2, by omega, by omega, fun hy hb => ?_⟩
      rw [key hy hb, if_neg (by omega), if_neg (by omega), if_neg (by omega), hu, Option.bind_some, if_neg hu0]
  · have hz' := hz (.inr h.1)
    obtain ⟨u, hu⟩ := at_ok (r := r') (i := y.f1.f1) (by have := h.2.1.1; omega) (by omega)
    refine .inr ⟨u, 0, fun hy hb => ?_⟩
    rw [key hy hb, if_pos h.1, hu, Option.bind_some]
  · refine .inr ⟨0, y.f1.f2, fun hy hb => ?_⟩
    rw [key hy hb, if_neg (by omega), if_pos h.1]
end
theorem Ex.back {s u : Ts} (h : Ex s u) : Ex (back s) (back u) := ⟨h.o, h.ld, h.st⟩
theorem Rl.back {m : Int} {s u : Ts} (h : Rl m s u) : Rl m (back s) (back u) := { h with d := by show IntKind.i64.wrap (u.d - 1) = IntKind.i64.wrap (s.d - 1); rw [h.d] }
theorem calls_sim {l : List S45} {fl fl' m : Int} {n : Nat} (hb : BlockP l fl n) (hb' : BlockP l fl' n) (hR : BlockR l fl fl' m n) {B d : Int} {z : Nat} {t : S45} (hm0 : 0 ≤ m) (hB : B + m ≤ 90000) (ht : Fz z t) (hop : ∀ y ∈ t.f1, y.f0.length ≤ 250 ∧ ∀ o ∈ y.f0, Oc l o) (hn : 3 * (1000 - d) + 3 ≤ (n : Int)) :
    ∀ (N : Nat) (s u : Ts) (r : List Int) (x : Int), Iv B fl s → Iv (B + m) fl' u → Rl m s u → s.d = d → r.length = z + 1 → 0 ≤ x → x < (t.f1.length : Int) → u.f < (N : Int) → ∃ v e s' v' e' u', Kl n l fl t N x s r = some (tv v e (back s')) ∧ Kl n l fl' t N x u r = some (tv v' e' (back u')) ∧ RV fl fl' m v e s' v' e' u' := by
  intro N
  induction N with
  | zero => intro s u r x hI hJ hS hd hr hx0 hx1 hN; have := hJ.f0; omega
  | succ N ih =>
    intro s u r x hI hJ hS hd hr hx0 hx1 hN
    obtain ⟨y, hy⟩ := at_ok (r := t.f1) hx0 hx1
    have hm := at_mem hy
    obtain ⟨k1, k2⟩ := hop y hm
    have hud : u.d = d := hS.d.trans hd
    have hall : ∀ o ∈ y.f0, Oz z o ∧ Oc l o := fun o ho => ⟨ht.op y hm o ho, k2 o ho⟩
    obtain ⟨e, s', r', q1, q2, q3, q4, q5⟩ := hb B s z y r hI (by omega) k1 hall hr (by omega)
    obtain ⟨e', u', r2, p1, p2, p3, p4, p5⟩ := hb' (B + m) u z y r hJ hB k1 hall hr (by omega)
    obtain ⟨g, s1, r1, g', u1, r3, w1, w2, w3⟩ := hR B s u z y r hI hJ hS hB k1 hall hr (by omega)
    obtain ⟨rfl, rfl, rfl⟩ := tb_inj (q1.symm.trans w1)
    obtain ⟨rfl, rfl, rfl⟩ := tb_inj (p1.symm.trans w2)
    obtain ⟨hrt, hz⟩ := ht.term y hm
    have hsf := hI.f0
    have huf := hS.f
    rcases w3 with ⟨rfl, rfl, w3⟩ | ⟨w3, w4⟩
    · by_cases he : e = 0
      · subst he
        rcases c_ok (n := n) (l := l) hrt hz q4 with ⟨x', h0, h1, hk⟩ | ⟨v, e, hk⟩
        · rw [hk hy q1, hk hy p1]
          have := p5 rfl
          exact ih s' u' r' x' q2 p2 w3 (q3.d.trans hd) q4 h0 h1 (by omega)
        · exact ⟨v, e, s', v, e, u', hk hy q1, hk hy p1, .inl ⟨rfl, rfl, w3⟩⟩
      · exact ⟨0, e, s', 0, e, u', c_err hy q1 he, c_err hy p1 he, .inl ⟨rfl, rfl, w3⟩⟩
    · by_cases he : e' = 0
      · subst he
        rcases c_ok (n := n) (l := l) hrt hz p4 with ⟨x', h0, h1, hk⟩ | ⟨v, e2, hk⟩
        · have := p5 rfl
          obtain ⟨v2, e2, u2, t1, t2, t3⟩ := call_loop hb' (d := d) hB ht hop hn N u' r2 x' p2 (p3.d.trans hud) p4 h0 h1 (by omega)
          exact ⟨0, e, s', v2, e2, u2, c_err hy q1 w3.ne, (hk hy p1).trans t1, .inr ⟨w3, w4.go t3⟩⟩
        · exact ⟨0, e, s', v, e2, u', c_err hy q1 w3.ne, hk hy p1, .inr ⟨w3, w4⟩⟩
      · exact ⟨0, e, s', 0, e', u', c_err hy q1 w3.ne, c_err hy p1 he, .inr ⟨w3, w4⟩⟩
theorem cf_hi {l : List S45} {fl : Int} {n : Nat} {s : Ts} {t : S45} {us : List Int} (hd : 1000 ≤ s.d) : Cf (n + 1) l fl s t us = some (tv 0 8 s) := by
  show trace_runner_call.g (trace_runner_call.fix n).1 (trace_runner_call.fix n).2.1 (trace_runner_call.fix n).2.2 l s.m s.h fl s.i s.f s.d s.o 0 s.ld s.st s.c t us = _
  unfold trace_runner_call.g
  rw [if_pos hd]
abbrev rg (z : Nat) (us : List Int) : List Int := cpyL (List.replicate ((z : Int) + 1).toNat (0 : Int)) 1 (((z : Int) + 1).toNat : Int) us
theorem rg_len (z : Nat) (us : List Int) : (rg z us).length = z + 1 := by
  have := cpy_len (xs := List.replicate ((z : Int) + 1).toNat (0 : Int)) (ys := us) (l := 1) (by omega) (by simp; omega)
  rw [List.length_replicate] at this
  show (cpyL (List.replicate ((z : Int) + 1).toNat (0 : Int)) 1 (((z : Int) + 1).toNat : Int) us).length = _
  rw [this]; omega
theorem cf_lo {l : List S45} {fl : Int} {n z : Nat} {s : Ts} {t : S45} {us : List Int} (hd0 : 0 ≤ s.d) (hd : ¬ 1000 ≤ s.d) (hz : Fz z t) {v e : Int} {s' : Ts} (h : Kl n l fl t 100000 0 { s with d := s.d + 1 } (rg z us) = some (tv v e s')) : Cf (n + 1) l fl s t us = some (tv v e s') := by
  show trace_runner_call.g (trace_runner_call.fix n).1 (trace_runner_call.fix n).2.1 (trace_runner_call.fix n).2.2 l s.m s.h fl s.i s.f s.d s.o 0 s.ld s.st s.c t us = _
  unfold trace_runner_call.g
  have hle := hz.le
  rw [if_neg hd, hz.regs, Option.bind_some, w64 (n := (z : Int) + 1) (by omega) (by omega), if_pos (by omega), List.length_replicate, if_pos (by omega), Option.bind_some, w64 (n := s.d + 1) (by omega) (by omega)]
  have h' : trace_runner_call.l0 (trace_runner_call.fix n).2.1 l fl 0 t 100000 (cpyL (List.replicate ((z : Int) + 1).toNat (0 : Int)) 1 (((z : Int) + 1).toNat : Int) us) 0 s.i s.f (s.d + 1) s.o s.ld s.st s.c s.m s.h = some (tv v e s') := h
  rw [h', Option.bind_some]
theorem call_sim {l : List S45} {fl fl' m : Int} {n : Nat} (hb : BlockP l fl n) (hb' : BlockP l fl' n) (hR : BlockR l fl fl' m n) (hm0 : 0 ≤ m) (hw : Wp l) : CallR l fl fl' m (n + 1) := by
  intro B s u t us hI hJ hS hB ht hl hn
  have hd0 := hI.d0
  have hd1 := hI.d1
  have hud := hS.d
  by_cases hd : 1000 ≤ s.d
  · exact ⟨0, 8, s, 0, 8, u, cf_hi hd, cf_hi (by omega), .inl ⟨rfl, rfl, hS⟩⟩
  · obtain ⟨z, hz⟩ := hw.fn t ht
    have hz1 := hz.rf.l1
    have hI1 : Iv B fl { s with d := s.d + 1 } := { hI with d0 := by show 0 ≤ s.d + 1; omega, d1 := by show s.d + 1 ≤ 1000; omega }
    have hJ1 : Iv (B + m) fl' { u with d := u.d + 1 } := { hJ with d0 := by show 0 ≤ u.d + 1; omega, d1 := by show u.d + 1 ≤ 1000; omega }
    have hS1 : Rl m { s with d := s.d + 1 } { u with d := u.d + 1 } := { hS with d := by show u.d + 1 = s.d + 1; omega }
    obtain ⟨v, e, s', v', e', u', q1, q2, q3⟩ := calls_sim hb hb' hR (d := s.d + 1) hm0 hB hz (hw.op t ht) (by omega) 100000 _ _ (rg z us) 0 hI1 hJ1 hS1 rfl (rg_len z us) (by omega) (by omega) (by have := hJ.fB; show u.f < _; omega)
    refine ⟨v, e, back s', v', e', back u', cf_lo hd0 hd hz q1, cf_lo (by omega) (by omega) hz q2, ?_⟩
    rcases q3 with ⟨rfl, rfl, q3⟩ | ⟨q3, q4⟩
    · exact .inl ⟨rfl, rfl, q3.back⟩
    · exact .inr ⟨q3, q4.back⟩
theorem simul {l : List S45} {fl fl' m : Int} (hw : Wp l) (hl : l.length ≤ 1000) (hm0 : 0 ≤ m) (hfl : fl ≤ fl') : ∀ n, CallR l fl fl' m n ∧ BlockR l fl fl' m n ∧ ValueR l fl fl' m n := by
  intro n
  induction n with
  | zero => exact ⟨fun B s u t us hI _ _ _ _ _ hn => by have := hI.d1; omega, fun B s u z b r hI _ _ _ _ _ _ hn => by have := hI.d1; omega, fun B s u z o r hI _ _ _ _ _ _ hn => by have := hI.d1; omega⟩
  | succ n ih =>
    have t1 := total (fl := fl) hw hl n
    have t2 := total (fl := fl') hw hl n
    exact ⟨call_sim t1.2.1 t2.2.1 ih.2.1 hm0 hw, block_sim t1.2.2 t2.2.2 ih.2.2 hm0, value_sim ih.1 hl hfl⟩
end Go.Proofs.Ytfmocegnpmomnaa.Sy
set_option linter.unusedVariables false
set_option linter.unusedSimpArgs false
namespace Go.Proofs.Ytfmocegnpmomnaa.Sy
open Go Go.RowKit Go.Proofs.YtfmocegnpmomnaaW.PrintWords Go.Proofs.Ytfmocegnpmomnaa.SyO
theorem iv0' {B a1 a3 : Int} {a2 : List Int} (h1 : 1 ≤ a1) (h2 : a1 ≤ 4096) (h3 : 0 ≤ a3) (hB : a3 ≤ B) : Iv B a1 (ts0 a1 a2 a3) :=
  { iv0 (a2 := a2) h1 h2 h3 with pot := by show (([] : List Int).length : Int) + 0 + 0 + a3 ≤ B; simp; omega }
theorem at_rep {n k : Int} (h1 : 1 ≤ n) (hk : k < 1) : at? (List.replicate n.toNat (0 : Int)) k = if k = 0 then some 0 else none := by
  unfold at?
  by_cases h0 : 0 ≤ k
  · obtain rfl : k = 0 := by omega
    rw [if_pos h0, if_pos rfl, List.getElem?_replicate, if_pos (by simp; omega)]
  · rw [if_neg h0, if_neg (by omega)]
theorem rl0 {a1 a1' a3 m : Int} {a2 : List Int} (h1 : 1 ≤ a1) (h1' : 1 ≤ a1') : Rl m (ts0 a1 a2 a3) (ts0 a1' a2 (a3 + m)) :=
  ⟨rfl, rfl, rfl, rfl, rfl, rfl, rfl, rfl, fun k hk => by
    have hk' : k < 1 := hk
    show at? (List.replicate a1'.toNat (0 : Int)) k = at? (List.replicate a1.toNat (0 : Int)) k
    rw [at_rep h1' hk', at_rep h1 hk']⟩
theorem pre_t {a b : S28} (h : ∃ t, b.f0 = a.f0 ++ t) (hl : a.f0.length ≤ 140737488355328) : trace_Prefix.f a b = some true := by
  obtain ⟨t, ht⟩ := h
  rw [prefix_s _ _ hl, ht]
  simp
theorem same_t {a b : S28} (h1 : a.f1 = b.f1) (h0 : a.f0 = b.f0) (hl : a.f0.length ≤ 140737488355328) : trace_Same.f a b = some true := by
  rw [same_s _ _ hl]; simp [h1, h0]
theorem traceMore_law (a0 : List S45) (a1 : Int) (a2 : List Int) (a3 a4 : Int) (h0 : a0.length * 32 ≤ 140737488351232 ∧ ∀ y ∈ a0, ok45 y) (h1 : (Lit.int .i64 a1).wf = true) (h2 : a2.length * 8 ≤ 140737488351232 ∧ ∀ y ∈ a2, (Lit.int .i64 y).wf = true) (h3 : (Lit.int .i64 a3).wf = true) (h4 : (Lit.int .i64 a4).wf = true) : swagelaw15_TraceMore.f a0 a1 a2 a3 a4 = some true := by
  obtain ⟨b, b1, b2⟩ := few15 h0
  unfold swagelaw15_TraceMore.f
  rw [small15, Option.bind_some, b1, Option.bind_some]
  simp only [jn]
  cases b with
  | false => rw [if_pos (by simp), if_pos trivial]
  | true =>
    obtain ⟨h8, hf⟩ := b2 rfl
    rw [if_neg (by simp)]
    by_cases c1 : a1 < 1
    · rw [if_pos c1, if_pos trivial]
    rw [if_neg c1]
    by_cases c2 : 2048 < a1
    · rw [if_pos c2, if_pos trivial]
    rw [if_neg c2]
    by_cases c3 : 100 < (a2.length : Int)
    · rw [if_pos c3, if_pos trivial]
    rw [if_neg c3]
    by_cases c4 : a3 < 0
    · rw [if_pos c4, if_pos trivial]
    rw [if_neg c4]
    by_cases c5 : 3000 < a3
    · rw [if_pos c5, if_pos trivial]
    rw [if_neg c5]
    by_cases c6 : a4 < 0
    · rw [if_pos c6, if_pos trivial]
    rw [if_neg c6]
    by_cases c7 : 1000 < a4
    · rw [if_pos (by simpa using c7)]
    rw [if_neg (by simpa using c7), w64 (n := a3 + a4) (by omega) (by omega), w64 (n := a1 + a4) (by omega) (by omega)]
    rcases run_f h8 hf with hr | ⟨hw, t, ht, ht0, hr⟩
    · rw [hr a1 a2 a3 (by omega) (by omega), hr a1 a2 (a3 + a4) (by omega) (by omega), hr (a1 + a4) a2 a3 (by omega) (by omega)]
      simp
    · have hl : a0.length ≤ 1000 := by omega
      have hn : 3 * (1000 - (0 : Int)) + 1 ≤ ((100000 : Nat) : Int) := by omega
      have hus : ((([] : List Int).length : Nat) : Int) = t.f0 := by simp [ht0]
      obtain ⟨v, e, s, e1, e2, e3⟩ := (total hw hl 100000).1 a3 (ts0 a1 a2 a3) t [] (iv0 (by omega) (by omega) (by omega)) (by omega) ht hus hn
      obtain ⟨v1, g1, s1, v2, g2, u, p1, p2, p3⟩ := (simul (fl := a1) (fl' := a1) (m := a4) hw hl (by omega) (by omega) 100000).1 a3 (ts0 a1 a2 a3) (ts0 a1 a2 (a3 + a4)) t [] (iv0 (by omega) (by omega) (by omega)) (iv0 (by omega) (by omega) (by omega)) (rl0 (by omega) (by omega)) (by omega) ht hus hn
      obtain ⟨v3, g3, s3, v4, g4, x, q1, q2, q3⟩ := (simul (fl := a1) (fl' := a1 + a4) (m := 0) hw hl (by omega) (by omega) 100000).1 a3 (ts0 a1 a2 a3) (ts0 (a1 + a4) a2 a3) t [] (iv0 (by omega) (by omega) (by omega)) (iv0' (by omega) (by omega) (by omega) (by omega)) (by have := rl0 (a1 := a1) (a1' := a1 + a4) (a3 := a3) (m := 0) (a2 := a2) (by omega) (by omega); rwa [show a3 + 0 = a3 by omega] at this) (by omega) ht hus hn
      obtain ⟨rfl, rfl, rfl⟩ := tv_inj (e1.symm.trans p1)
      obtain ⟨rfl, rfl, rfl⟩ := tv_inj (e1.symm.trans q1)
      have i1 := e2.pot; have i2 := e2.ld0; have i3 := e2.st0; have i4 := e2.f0; have i5 := e2.c; have i6 := e2.h1; have i7 := e2.h2
      have hlen : s.o.length ≤ 140737488355328 := by omega
      have hc : s.c < a1 := by omega
      rw [hr a1 a2 a3 (by omega) (by omega) v e s e1, hr a1 a2 (a3 + a4) (by omega) (by omega) v2 g2 u p2, hr (a1 + a4) a2 a3 (by omega) (by omega) v4 g4 x q2]
      have ex1 : Ex s u := by rcases p3 with ⟨_, _, h⟩ | ⟨_, h⟩; exact h.ex; exact h
      have ex2 : Ex s x := by rcases q3 with ⟨_, _, h⟩ | ⟨_, h⟩; exact h.ex; exact h
      have hp1 : trace_Prefix.f ⟨s.o, e, s.ld, s.st, s.c⟩ ⟨u.o, g2, u.ld, u.st, u.c⟩ = some true := pre_t ex1.o hlen
      have hp2 : trace_Prefix.f ⟨s.o, e, s.ld, s.st, s.c⟩ ⟨x.o, g4, x.ld, x.st, x.c⟩ = some true := pre_t ex2.o hlen
      have hs1 : ¬ e = 12 → trace_Same.f ⟨s.o, e, s.ld, s.st, s.c⟩ ⟨u.o, g2, u.ld, u.st, u.c⟩ = some true := fun h => by
        rcases p3 with ⟨_, k1, k2⟩ | ⟨k1, k2⟩
        · exact same_t k1 k2.o.symm hlen
        · unfold Dv at k1; exfalso; omega
      have hs2 : ¬ e = 9 → trace_Same.f ⟨s.o, e, s.ld, s.st, s.c⟩ ⟨x.o, g4, x.ld, x.st, x.c⟩ = some true := fun h => by
        rcases q3 with ⟨_, k1, k2⟩ | ⟨k1, k2⟩
        · exact same_t k1 k2.o.symm hlen
        · unfold Dv at k1; exfalso; omega
      have l1 := ex1.ld
      have l2 := ex1.st
      simp only [Option.bind_some, hp1, hp2]
      have z1 : ¬ u.ld < s.ld := by omega
      have z2 : ¬ u.st < s.st := by omega
      by_cases d1 : e = 12
      · have hs2' := hs2 (by omega)
        simp only [hs2']
        simp [d1, z1, z2, hc]
      · have hs1' := hs1 d1
        by_cases d2 : e = 9
        · simp only [hs1']
          simp [d1, d2, z1, z2, hc]
        · have hs2' := hs2 d2
          simp only [hs1', hs2']
          by_cases d3 : e = 7 <;> simp [d1, d2, d3, z1, z2, hc]
end Go.Proofs.Ytfmocegnpmomnaa.Sy
