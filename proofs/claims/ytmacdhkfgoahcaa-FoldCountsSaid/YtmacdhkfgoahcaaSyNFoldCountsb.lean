/- Texts of this work, joined: SyF29, SyF88, SyF89, SyF90, SyF53, SyF91, SyF92, SyF93, SyF78, SyF54, SyF79, SyF55, SyF31, SyF56, SyF82, SyF57, SyF28, SyF39, SyF30, FcC, FcD, SyF19. -/
import Derived.Test.YtmacdhkfgoahcaaSyNFoldCountsa
set_option linter.unusedVariables false
set_option linter.unusedSimpArgs false
set_option maxRecDepth 100000
set_option maxHeartbeats 4000000
namespace Go.Proofs.Ytmacdhkfgoahcaa.Sy
open Go Go.RowKit Go.Proofs.YtmacdhkfgoahcaaW.PrintWords 
def word_Do.f (a0 : Int) (a1 : Int) (a2 : Int) : Option (Int × Int) := jn (γ := (Int × Int)) (fun (x39 : Bool) => (if x39 = true then (if a2 = 0 then some (0, 6) else (word_divided.f a0 a1 a2).bind fun (y58 : Int) => some (y58, 0)) else jn (γ := (Int × Int)) (fun (x61 : Bool) => (if x61 = true then (if a2 < 0 then some (0, 6) else (word_moved.f a0 a1 a2).bind fun (y71 : Int) => some (y71, 0)) else (word_Known.f a0).bind fun (y73 : Bool) => (if (!y73) = true then some (0, 1) else (word_plain.f a0 a1 a2).bind fun (y77 : Int) => some (y77, 0)))) (fun (j62 : (Bool → Option (Int × Int))) => (if a0 = 9 then j62 (decide (a0 = 9)) else j62 (decide (a0 = 10)))))) (fun (j40 : (Bool → Option (Int × Int))) => (if a0 = 4 then j40 (decide (a0 = 4)) else j40 (decide (a0 = 5))))
def word_Do.post (G : Gd)  (r : (Int × Int)) (v : Value) (G' : Gd) (Lr : List Ch) : Prop := G = G' ∧ v = .tuple #[.int .i64 r.1, .int .i64 r.2] ∧ Lr = []
theorem word_Do.calls {G : Gd} {r : (Int × Int)} {a0 : Int} {a1 : Int} {a2 : Int} (h : word_Do.f a0 a1 a2 = some r) : Fn Try.prog 29 G [] [.int .i64 a0, .int .i64 a1, .int .i64 a2] (word_Do.post G  r) := by
 refine Fn.intro (e := [(0, .int .i64 a0), (1, .int .i64 a1), (2, .int .i64 a2)]) 34 Try.func29 rfl Try.ntmps29 rfl rfl (Nat.le_of_ble_eq_true rfl) (fun L => ?_)
 unfold word_Do.f at h
 refine TC.seq ?_
 refine TC.region ?_
 refine TL.cons (TO.val rfl rfl rfl (Val.assign rfl) ?_)
 refine TL.cons (TO.val rfl rfl rfl (Val.assign rfl) ?_)
 refine TL.nil ?_
 refine TQ.then_ ?_
 refine TC.seq ?_
 refine TC.seq ?_
 refine TC.region ?_
 refine TL.cons (TO.val rfl rfl rfl (Val.move rfl) ?_)
 refine TL.nil ?_
 refine TQ.then_ ?_
 refine TC.block ?_
 refine TC.seq ?_
 refine TC.seq ?_
 refine TC.region ?_
 refine TL.cons (TO.val rfl rfl rfl (Val.cmp rfl rfl run_eql) ?_)
 refine TL.cons (TO.val rfl rfl rfl (Val.assign rfl) ?_)
 refine TL.nil ?_
 refine TQ.then_ ?_
 obtain ⟨j40, hj40, h⟩ := jn_no h
 refine TC.tail (fun a W => ∃ (x39 : Bool), j40 x39 = some r ∧ Fr 34 a [(0, .int .i64 a0), (1, .int .i64 a1), (2, .int .i64 a2), (8, .int .i64 a0), (9, .bool x39)] ∧ Own G (L) W) ?_ ?_
 ·
  rintro a W ⟨x39, h, hF, hO⟩
  rw [hj40] at h
  refine TQ.use ?_ hF hO
  clear hF hO
  refine TQ.then_ ?_
  refine TC.cond_b rfl h (fun hc55 h => ?_) (fun hc55 h => ?_)
  ·
   refine TC.seq ?_
   refine TC.seq ?_
   refine TC.region ?_
   refine TL.cons (TO.val rfl rfl rfl (Val.move rfl) ?_)
   refine TL.cons (TO.val rfl rfl rfl (Val.cmp rfl rfl run_eql) ?_)
   refine TL.nil ?_
   refine TQ.then_ ?_
   refine TC.cond_p rfl h (fun hc57 h => ?_) (fun hc57 h => ?_)
   ·
    refine TC.seq ?_
    refine TC.region ?_
    refine TL.cons (TO.val rfl rfl rfl (Val.assign rfl) ?_)
    refine TL.cons (TO.val rfl rfl rfl (Val.assign rfl) ?_)
    refine TL.nil ?_
    refine TQ.then_ ?_
    refine TC.ret ?_
    refine TQ.thenR ?_
    refine TQ.inBR ?_
    refine TQ.thenR ?_
    obtain rfl := Option.some.inj h
    exact TQ.fin (.inl rfl) rfl Try.results29 (.tmp rfl (.tmp rfl .nil)) rfl (FRel.mk (Ls := []) [] 0 (Gd.le.refl _) rfl rfl rfl ⟨rfl, rfl, rfl⟩)
   ·
    refine TC.skip ?_
    refine TQ.then_ ?_
    refine TC.seq ?_
    refine TC.region ?_
    refine TL.cons (TO.val rfl rfl rfl (Val.move rfl) ?_)
    refine TL.cons (TO.val rfl rfl rfl (Val.move rfl) ?_)
    refine TL.cons (TO.val rfl rfl rfl (Val.move rfl) ?_)
    obtain ⟨y58, hy59, h⟩ := bind_no h
    refine TL.cons (TL.callV (Lin := []) (args := [.int .i64 a0, .int .i64 a1, .int .i64 a2]) rfl rfl rfl hbd58 rfl rfl (word_divided.calls (a0 := a0) (a1 := a1) (a2 := a2) hy59) rfl ?_)
    rintro _ _ _ _ ⟨rfl, rfl, rfl⟩
    refine TL.cons (TO.val rfl rfl rfl (Val.assign rfl) ?_)
    refine TL.cons (TO.val rfl rfl rfl (Val.assign rfl) ?_)
    refine TL.nil ?_
    refine TQ.then_ ?_
    refine TC.ret ?_
    refine TQ.inBR ?_
    refine TQ.thenR ?_
    obtain rfl := Option.some.inj h
    exact TQ.fin (.inl rfl) rfl Try.results29 (.tmp rfl (.tmp rfl .nil)) rfl (FRel.mk (Ls := []) [] 0 (Gd.le.refl _) rfl rfl rfl ⟨rfl, rfl, rfl⟩)
  ·
   refine TC.seq ?_
   refine TC.seq ?_
   refine TC.region ?_
   refine TL.cons (TO.val rfl rfl rfl (Val.cmp rfl rfl run_eql) ?_)
   refine TL.cons (TO.val rfl rfl rfl (Val.assign rfl) ?_)
   refine TL.nil ?_
   refine TQ.then_ ?_
   obtain ⟨j62, hj62, h⟩ := jn_no h
   refine TC.tail (fun a W => ∃ (x61 : Bool), j62 x61 = some r ∧ Fr 34 a [(0, .int .i64 a0), (1, .int .i64 a1), (2, .int .i64 a2), (18, .bool x61)] ∧ Own G (L) W) ?_ ?_
   ·
    rintro a W ⟨x61, h, hF, hO⟩
    rw [hj62] at h
    refine TQ.use ?_ hF hO
    clear hF hO
    refine TQ.then_ ?_
    refine TC.cond_b rfl h (fun hc68 h => ?_) (fun hc68 h => ?_)
    ·
     refine TC.seq ?_
     refine TC.seq ?_
     refine TC.region ?_
     refine TL.cons (TO.val rfl rfl rfl (Val.move rfl) ?_)
     refine TL.cons (TO.val rfl rfl rfl (Val.cmp rfl rfl run_lss) ?_)
     refine TL.nil ?_
     refine TQ.then_ ?_
     refine TC.cond_p rfl h (fun hc70 h => ?_) (fun hc70 h => ?_)
     ·
      refine TC.seq ?_
      refine TC.region ?_
      refine TL.cons (TO.val rfl rfl rfl (Val.assign rfl) ?_)
      refine TL.cons (TO.val rfl rfl rfl (Val.assign rfl) ?_)
      refine TL.nil ?_
      refine TQ.then_ ?_
      refine TC.ret ?_
      refine TQ.thenR ?_
      refine TQ.inBR ?_
      refine TQ.thenR ?_
      obtain rfl := Option.some.inj h
      exact TQ.fin (.inl rfl) rfl Try.results29 (.tmp rfl (.tmp rfl .nil)) rfl (FRel.mk (Ls := []) [] 0 (Gd.le.refl _) rfl rfl rfl ⟨rfl, rfl, rfl⟩)
     ·
      refine TC.skip ?_
      refine TQ.then_ ?_
      refine TC.seq ?_
      refine TC.region ?_
      refine TL.cons (TO.val rfl rfl rfl (Val.move rfl) ?_)
      refine TL.cons (TO.val rfl rfl rfl (Val.move rfl) ?_)
      refine TL.cons (TO.val rfl rfl rfl (Val.move rfl) ?_)
      obtain ⟨y71, hy72, h⟩ := bind_no h
      refine TL.cons (TL.callV (Lin := []) (args := [.int .i64 a0, .int .i64 a1, .int .i64 a2]) rfl rfl rfl hbd59 rfl rfl (word_moved.calls (a0 := a0) (a1 := a1) (a2 := a2) hy72) rfl ?_)
      rintro _ _ _ _ ⟨rfl, rfl, rfl⟩
      refine TL.cons (TO.val rfl rfl rfl (Val.assign rfl) ?_)
      refine TL.cons (TO.val rfl rfl rfl (Val.assign rfl) ?_)
      refine TL.nil ?_
      refine TQ.then_ ?_
      refine TC.ret ?_
      refine TQ.inBR ?_
      refine TQ.thenR ?_
      obtain rfl := Option.some.inj h
      exact TQ.fin (.inl rfl) rfl Try.results29 (.tmp rfl (.tmp rfl .nil)) rfl (FRel.mk (Ls := []) [] 0 (Gd.le.refl _) rfl rfl rfl ⟨rfl, rfl, rfl⟩)
    ·
     refine TC.skip ?_
     refine TQ.inB ?_
     refine TQ.then_ ?_
     refine TC.seq ?_
     refine TC.seq ?_
     refine TC.region ?_
     refine TL.cons (TO.val rfl rfl rfl (Val.move rfl) ?_)
     obtain ⟨y73, hy74, h⟩ := bind_no h
     refine TL.cons (TL.callV (Lin := []) (args := [.int .i64 a0]) rfl rfl rfl hbd27 rfl rfl (word_Known.calls (a0 := a0) hy74) rfl ?_)
     rintro _ _ _ _ ⟨rfl, rfl, rfl⟩
     refine TL.cons (TO.val rfl rfl rfl (Val.not_ rfl) ?_)
     refine TL.nil ?_
     refine TQ.then_ ?_
     refine TC.cond_b rfl h (fun hc76 h => ?_) (fun hc76 h => ?_)
     ·
      refine TC.seq ?_
      refine TC.region ?_
      refine TL.cons (TO.val rfl rfl rfl (Val.assign rfl) ?_)
      refine TL.cons (TO.val rfl rfl rfl (Val.assign rfl) ?_)
      refine TL.nil ?_
      refine TQ.then_ ?_
      refine TC.ret ?_
      refine TQ.thenR ?_
      obtain rfl := Option.some.inj h
      exact TQ.fin (.inl rfl) rfl Try.results29 (.tmp rfl (.tmp rfl .nil)) rfl (FRel.mk (Ls := []) [] 0 (Gd.le.refl _) rfl rfl rfl ⟨rfl, rfl, rfl⟩)
     ·
      refine TC.skip ?_
      refine TQ.then_ ?_
      refine TC.seq ?_
      refine TC.region ?_
      refine TL.cons (TO.val rfl rfl rfl (Val.move rfl) ?_)
      refine TL.cons (TO.val rfl rfl rfl (Val.move rfl) ?_)
      refine TL.cons (TO.val rfl rfl rfl (Val.move rfl) ?_)
      obtain ⟨y77, hy78, h⟩ := bind_no h
      refine TL.cons (TL.callV (Lin := []) (args := [.int .i64 a0, .int .i64 a1, .int .i64 a2]) rfl rfl rfl hbd60 rfl rfl (word_plain.calls (a0 := a0) (a1 := a1) (a2 := a2) hy78) rfl ?_)
      rintro _ _ _ _ ⟨rfl, rfl, rfl⟩
      refine TL.cons (TO.val rfl rfl rfl (Val.assign rfl) ?_)
      refine TL.cons (TO.val rfl rfl rfl (Val.assign rfl) ?_)
      refine TL.nil ?_
      refine TQ.then_ ?_
      refine TC.ret ?_
      obtain rfl := Option.some.inj h
      exact TQ.fin (.inl rfl) rfl Try.results29 (.tmp rfl (.tmp rfl .nil)) rfl (FRel.mk (Ls := []) [] 0 (Gd.le.refl _) rfl rfl rfl ⟨rfl, rfl, rfl⟩)
   ·
    refine TC.cond_p rfl h (fun hc79 h => ?_) (fun hc79 h => ?_)
    ·
     refine TC.skip ?_
     exact fun a W hF hO => ⟨decide (a0 = 9), h, hF.sub ⟨rfl, rfl, rfl, rfl, trivial⟩, hO.selT (Ls := []) [] 0 rfl rfl rfl⟩
    ·
     refine TC.region ?_
     refine TL.cons (TO.val rfl rfl rfl (Val.cmp rfl rfl run_eql) ?_)
     refine TL.cons (TO.val rfl rfl rfl (Val.assign rfl) ?_)
     refine TL.nil ?_
     exact fun a W hF hO => ⟨decide (a0 = 10), h, hF.sub ⟨rfl, rfl, rfl, rfl, trivial⟩, hO.selT (Ls := []) [] 0 rfl rfl rfl⟩
 ·
  refine TC.cond_p rfl h (fun hc80 h => ?_) (fun hc80 h => ?_)
  ·
   refine TC.skip ?_
   exact fun a W hF hO => ⟨decide (a0 = 4), h, hF.sub ⟨rfl, rfl, rfl, rfl, rfl, trivial⟩, hO.selT (Ls := []) [] 0 rfl rfl rfl⟩
  ·
   refine TC.region ?_
   refine TL.cons (TO.val rfl rfl rfl (Val.cmp rfl rfl run_eql) ?_)
   refine TL.cons (TO.val rfl rfl rfl (Val.assign rfl) ?_)
   refine TL.nil ?_
   exact fun a W hF hO => ⟨decide (a0 = 5), h, hF.sub ⟨rfl, rfl, rfl, rfl, rfl, trivial⟩, hO.selT (Ls := []) [] 0 rfl rfl rfl⟩
end Go.Proofs.Ytmacdhkfgoahcaa.Sy
set_option linter.unusedVariables false
set_option linter.unusedSimpArgs false
set_option maxRecDepth 100000
set_option maxHeartbeats 4000000
namespace Go.Proofs.Ytmacdhkfgoahcaa.Sy
open Go Go.RowKit Go.Proofs.YtmacdhkfgoahcaaW.PrintWords 
def fold_numbers_both.f (a0_0 : MpS) (a1 : S30) : Option (Int × Bool) := (if wfi a1.f2 then (if wfi a1.f3 then jn (γ := (Int × Bool)) (fun (x12 : Bool) => (if x12 = true then some (0, false) else (word_Do.f a1.f4 (mget a0_0 a1.f2) (mget a0_0 a1.f3)).bind fun (y16 : (Int × Int)) => some (y16.1, decide (y16.2 = 0)))) (fun (j13 : (Bool → Option (Int × Bool))) => (if (!(mhas a0_0 a1.f2)) = true then j13 true else j13 (!(mhas a0_0 a1.f3)))) else none) else none)
def fold_numbers_both.post (G : Gd) (b1 : Nat) (A2 : Option Addr) (c3 : Nat) (a0_0 : MpS) (a1 : S30) (r : (Int × Bool)) (v : Value) (G' : Gd) (Lr : List Ch) : Prop := G = G' ∧ v = .tuple #[.int .i64 r.1, .bool r.2] ∧ Lr = [Mp Try.prog 3 3 b1 a0_0]
theorem fold_numbers_both.calls {G : Gd} {r : (Int × Bool)} {a0_0 : MpS} {a1 : S30} {b1 : Nat} {A2 : Option Addr} {c3 : Nat} (hr4 : Rd G (Kd.int .i64) A2 a1.f5) (hl5 : a1.f5.length ≤ c3) (h : fold_numbers_both.f a0_0 a1 = some r) : Fn Try.prog 88 G [Mp Try.prog 3 3 b1 a0_0] [.map (some b1), .agg #[.int .i64 a1.f0, .int .i64 a1.f1, .int .i64 a1.f2, .int .i64 a1.f3, .int .i64 a1.f4, .slice A2 a1.f5.length c3]] (fold_numbers_both.post G b1 A2 c3 a0_0 a1 r) := by
 refine Fn.intro (e := [(0, .map (some b1)), (1, .agg #[.int .i64 a1.f0, .int .i64 a1.f1, .int .i64 a1.f2, .int .i64 a1.f3, .int .i64 a1.f4, .slice A2 a1.f5.length c3])]) 43 Try.func88 rfl Try.ntmps88 rfl rfl (Nat.le_of_ble_eq_true rfl) (fun L => ?_)
 unfold fold_numbers_both.f at h
 refine TC.seq ?_
 refine TC.region ?_
 refine TL.cons (TL.box (cs := [.int .i64 a1.f0, .int .i64 a1.f1, .int .i64 a1.f2, .int .i64 a1.f3, .int .i64 a1.f4, .slice A2 a1.f5.length c3]) rfl rfl rfl rfl (fun b6 => ?_))
 refine TL.cons (TO.val rfl rfl rfl (Val.assign rfl) ?_)
 refine TL.cons (TO.val rfl rfl rfl (Val.assign rfl) ?_)
 refine TL.nil ?_
 refine TQ.then_ ?_
 refine TC.seq ?_
 refine TC.region ?_
 refine TL.cons (TO.val rfl rfl rfl (Val.move rfl) ?_)
 refine TL.cons (TO.val rfl rfl rfl (Val.fieldAddrB Try.underlying30 rfl fsz3 rfl rfl rfl) ?_)
 refine TL.cons (TO.val rfl rfl rfl (Val.loadB 0 agg3 rfl rfl rfl) ?_)
 obtain ⟨hz7, h⟩ := ite_no h
 refine TL.cons (TO.val rfl rfl rfl (Val.lookupOk 1 Try.underlying81 Try.underlying3 Try.underlying3 zr3 rfl rfl rfl hz7) ?_)
 refine TL.cons (TO.val rfl rfl rfl (Val.move rfl) ?_)
 refine TL.cons (TO.val rfl rfl rfl (Val.extract rfl rfl) ?_)
 refine TL.cons (TO.val rfl rfl rfl (Val.extract rfl rfl) ?_)
 refine TL.cons (TO.val rfl rfl rfl (Val.assign rfl) ?_)
 refine TL.cons (TO.val rfl rfl rfl (Val.assign rfl) ?_)
 refine TL.nil ?_
 refine TQ.then_ ?_
 refine TC.seq ?_
 refine TC.region ?_
 refine TL.cons (TO.val rfl rfl rfl (Val.move rfl) ?_)
 refine TL.cons (TO.val rfl rfl rfl (Val.fieldAddrB Try.underlying30 rfl fsz3 rfl rfl rfl) ?_)
 refine TL.cons (TO.val rfl rfl rfl (Val.loadB 0 agg3 rfl rfl rfl) ?_)
 obtain ⟨hz8, h⟩ := ite_no h
 refine TL.cons (TO.val rfl rfl rfl (Val.lookupOk 1 Try.underlying81 Try.underlying3 Try.underlying3 zr3 rfl rfl rfl hz8) ?_)
 refine TL.cons (TO.val rfl rfl rfl (Val.move rfl) ?_)
 refine TL.cons (TO.val rfl rfl rfl (Val.extract rfl rfl) ?_)
 refine TL.cons (TO.val rfl rfl rfl (Val.extract rfl rfl) ?_)
 refine TL.cons (TO.val rfl rfl rfl (Val.assign rfl) ?_)
 refine TL.cons (TO.val rfl rfl rfl (Val.assign rfl) ?_)
 refine TL.nil ?_
 refine TQ.then_ ?_
 refine TC.seq ?_
 refine TC.seq ?_
 obtain ⟨j13, hj13, h⟩ := jn_no h
 refine TC.tail (fun a W => ∃ (x12 : Bool), j13 x12 = some r ∧ Fr 43 a [(3, .pointer (some ⟨b6, 0, none⟩)), (6, .int .i64 (mget a0_0 a1.f2)), (8, .int .i64 (mget a0_0 a1.f3)), (31, .bool x12)] ∧ Own G (Mp Try.prog 3 3 b1 a0_0 :: Blk b6 [.int .i64 a1.f0, .int .i64 a1.f1, .int .i64 a1.f2, .int .i64 a1.f3, .int .i64 a1.f4, .slice A2 a1.f5.length c3] 30 :: L) W) ?_ ?_
 ·
  rintro a W ⟨x12, h, hF, hO⟩
  rw [hj13] at h
  refine TQ.use ?_ hF hO
  clear hF hO
  refine TQ.then_ ?_
  refine TC.cond_b rfl h (fun hc15 h => ?_) (fun hc15 h => ?_)
  ·
   refine TC.seq ?_
   refine TC.region ?_
   refine TL.cons (TO.val rfl rfl rfl (Val.assign rfl) ?_)
   refine TL.cons (TO.val rfl rfl rfl (Val.assign rfl) ?_)
   refine TL.nil ?_
   refine TQ.then_ ?_
   refine TC.ret ?_
   refine TQ.thenR ?_
   obtain rfl := Option.some.inj h
   exact TQ.fin (.inl rfl) rfl Try.results88 (.tmp rfl (.tmp rfl .nil)) rfl (FRel.mk (Ls := [Mp Try.prog 3 3 b1 a0_0]) [0] 2 (Gd.le.refl _) rfl rfl rfl ⟨rfl, rfl, rfl⟩)
  ·
   refine TC.skip ?_
   refine TQ.then_ ?_
   refine TC.seq ?_
   refine TC.region ?_
   refine TL.cons (TO.val rfl rfl rfl (Val.fieldAddrB Try.underlying30 rfl fsz3 rfl rfl rfl) ?_)
   refine TL.cons (TO.val rfl rfl rfl (Val.loadB 1 agg3 rfl rfl rfl) ?_)
   refine TL.cons (TO.val rfl rfl rfl (Val.move rfl) ?_)
   refine TL.cons (TO.val rfl rfl rfl (Val.move rfl) ?_)
   obtain ⟨y16, hy17, h⟩ := bind_no h
   refine TL.cons (TL.callV (Lin := []) (args := [.int .i64 a1.f4, .int .i64 (mget a0_0 a1.f2), .int .i64 (mget a0_0 a1.f3)]) rfl rfl rfl hbd29 rfl rfl (word_Do.calls (a0 := a1.f4) (a1 := (mget a0_0 a1.f2)) (a2 := (mget a0_0 a1.f3)) hy17) rfl ?_)
   rintro _ _ _ _ ⟨rfl, rfl, rfl⟩
   refine TL.cons (TO.val rfl rfl rfl (Val.move rfl) ?_)
   refine TL.cons (TO.val rfl rfl rfl (Val.extract rfl rfl) ?_)
   refine TL.cons (TO.val rfl rfl rfl (Val.extract rfl rfl) ?_)
   refine TL.cons (TO.val rfl rfl rfl (Val.assign rfl) ?_)
   refine TL.cons (TO.val rfl rfl rfl (Val.assign rfl) ?_)
   refine TL.nil ?_
   refine TQ.then_ ?_
   refine TC.seq ?_
   refine TC.region ?_
   refine TL.cons (TO.val rfl rfl rfl (Val.move rfl) ?_)
   refine TL.cons (TO.val rfl rfl rfl (Val.move rfl) ?_)
   refine TL.cons (TO.val rfl rfl rfl (Val.cmp rfl rfl run_eql) ?_)
   refine TL.cons (TO.val rfl rfl rfl (Val.assign rfl) ?_)
   refine TL.cons (TO.val rfl rfl rfl (Val.assign rfl) ?_)
   refine TL.nil ?_
   refine TQ.then_ ?_
   refine TC.ret ?_
   obtain rfl := Option.some.inj h
   exact TQ.fin (.inl rfl) rfl Try.results88 (.tmp rfl (.tmp rfl .nil)) rfl (FRel.mk (Ls := [Mp Try.prog 3 3 b1 a0_0]) [0] 2 (Gd.le.refl _) rfl rfl rfl ⟨rfl, rfl, rfl⟩)
 ·
  refine TC.region ?_
  refine TL.cons (TO.val rfl rfl rfl (Val.move rfl) ?_)
  refine TL.cons (TO.val rfl rfl rfl (Val.not_ rfl) ?_)
  refine TL.cons (TO.val rfl rfl rfl (Val.move rfl) ?_)
  refine TK.split (p := (!(mhas a0_0 a1.f2)) = true) h (fun hg18 h => ?_) (fun hg18 h => ?_)
  ·
   have hk19 : (!(mhas a0_0 a1.f2)) = true := hg18
   refine TL.cons (TL.not (Wt.no rfl rfl rfl hk19) rfl ?_)
   refine TL.cons (TL.not (Wt.no rfl rfl rfl hk19) rfl ?_)
   refine TL.cons (TO.val rfl rfl rfl (Val.pickY rfl hk19 rfl) ?_)
   refine TL.nil ?_
   exact fun a W hF hO => ⟨true, h, hF.sub ⟨rfl, rfl, rfl, rfl, trivial⟩, hO.selT (Ls := [Mp Try.prog 3 3 b1 a0_0, Blk b6 [.int .i64 a1.f0, .int .i64 a1.f1, .int .i64 a1.f2, .int .i64 a1.f3, .int .i64 a1.f4, .slice A2 a1.f5.length c3] 30]) [1, 0] 2 rfl rfl rfl⟩
  ·
   have hk20 : (!(mhas a0_0 a1.f2)) = false := (by simpa using hg18)
   refine TL.cons (TO.val (Wt.yes rfl rfl rfl hk20) rfl rfl (Val.move rfl) ?_)
   refine TL.cons (TO.val (Wt.yes rfl rfl rfl hk20) rfl rfl (Val.not_ rfl) ?_)
   refine TL.cons (TO.val rfl rfl rfl (Val.pickN rfl hk20 rfl) ?_)
   refine TL.nil ?_
   exact fun a W hF hO => ⟨(!(mhas a0_0 a1.f3)), h, hF.sub ⟨rfl, rfl, rfl, rfl, trivial⟩, hO.selT (Ls := [Mp Try.prog 3 3 b1 a0_0, Blk b6 [.int .i64 a1.f0, .int .i64 a1.f1, .int .i64 a1.f2, .int .i64 a1.f3, .int .i64 a1.f4, .slice A2 a1.f5.length c3] 30]) [1, 0] 2 rfl rfl rfl⟩
end Go.Proofs.Ytmacdhkfgoahcaa.Sy
set_option linter.unusedVariables false
set_option linter.unusedSimpArgs false
set_option maxRecDepth 100000
set_option maxHeartbeats 4000000
namespace Go.Proofs.Ytmacdhkfgoahcaa.Sy
open Go Go.RowKit Go.Proofs.YtmacdhkfgoahcaaW.PrintWords 
def word_Turned.f (a0 : Int) : Option (Int × Bool) := jn (γ := (Int × Bool)) (fun (x38 : Bool) => (if x38 = true then some (a0, true) else some (0, false))) (fun (j39 : (Bool → Option (Int × Bool))) => (if a0 = 1 then j39 (decide (a0 = 1)) else (if a0 = 3 then j39 (decide (a0 = 3)) else (if a0 = 6 then j39 (decide (a0 = 6)) else (if a0 = 7 then j39 (decide (a0 = 7)) else (if a0 = 8 then j39 (decide (a0 = 8)) else (if a0 = 13 then j39 (decide (a0 = 13)) else j39 (decide (a0 = 14)))))))))
def word_Turned.post (G : Gd)  (r : (Int × Bool)) (v : Value) (G' : Gd) (Lr : List Ch) : Prop := G = G' ∧ v = .tuple #[.int .i64 r.1, .bool r.2] ∧ Lr = []
theorem word_Turned.calls {G : Gd} {r : (Int × Bool)} {a0 : Int} (h : word_Turned.f a0 = some r) : Fn Try.prog 89 G [] [.int .i64 a0] (word_Turned.post G  r) := by
 refine Fn.intro (e := [(0, .int .i64 a0)]) 14 Try.func89 rfl Try.ntmps89 rfl rfl (Nat.le_of_ble_eq_true rfl) (fun L => ?_)
 unfold word_Turned.f at h
 refine TC.seq ?_
 refine TC.region ?_
 refine TL.cons (TO.val rfl rfl rfl (Val.assign rfl) ?_)
 refine TL.cons (TO.val rfl rfl rfl (Val.assign rfl) ?_)
 refine TL.nil ?_
 refine TQ.then_ ?_
 refine TC.seq ?_
 refine TC.seq ?_
 refine TC.region ?_
 refine TL.cons (TO.val rfl rfl rfl (Val.move rfl) ?_)
 refine TL.nil ?_
 refine TQ.then_ ?_
 refine TC.block ?_
 refine TC.seq ?_
 refine TC.seq ?_
 refine TC.region ?_
 refine TL.cons (TO.val rfl rfl rfl (Val.cmp rfl rfl run_eql) ?_)
 refine TL.cons (TO.val rfl rfl rfl (Val.assign rfl) ?_)
 refine TL.nil ?_
 refine TQ.then_ ?_
 obtain ⟨j39, hj39, h⟩ := jn_no h
 refine TC.tail (fun a W => ∃ (x38 : Bool), j39 x38 = some r ∧ Fr 14 a [(0, .int .i64 a0), (5, .bool x38)] ∧ Own G (L) W) ?_ ?_
 ·
  rintro a W ⟨x38, h, hF, hO⟩
  rw [hj39] at h
  refine TQ.use ?_ hF hO
  clear hF hO
  refine TQ.then_ ?_
  refine TC.cond_b rfl h (fun hc41 h => ?_) (fun hc41 h => ?_)
  ·
   refine TC.seq ?_
   refine TC.region ?_
   refine TL.cons (TO.val rfl rfl rfl (Val.move rfl) ?_)
   refine TL.cons (TO.val rfl rfl rfl (Val.assign rfl) ?_)
   refine TL.cons (TO.val rfl rfl rfl (Val.assign rfl) ?_)
   refine TL.nil ?_
   refine TQ.then_ ?_
   refine TC.ret ?_
   refine TQ.inBR ?_
   refine TQ.thenR ?_
   obtain rfl := Option.some.inj h
   exact TQ.fin (.inl rfl) rfl Try.results89 (.tmp rfl (.tmp rfl .nil)) rfl (FRel.mk (Ls := []) [] 0 (Gd.le.refl _) rfl rfl rfl ⟨rfl, rfl, rfl⟩)
  ·
   refine TC.skip ?_
   refine TQ.inB ?_
   refine TQ.then_ ?_
   refine TC.seq ?_
   refine TC.region ?_
   refine TL.cons (TO.val rfl rfl rfl (Val.assign rfl) ?_)
   refine TL.cons (TO.val rfl rfl rfl (Val.assign rfl) ?_)
   refine TL.nil ?_
   refine TQ.then_ ?_
   refine TC.ret ?_
   obtain rfl := Option.some.inj h
   exact TQ.fin (.inl rfl) rfl Try.results89 (.tmp rfl (.tmp rfl .nil)) rfl (FRel.mk (Ls := []) [] 0 (Gd.le.refl _) rfl rfl rfl ⟨rfl, rfl, rfl⟩)
 ·
  refine TC.cond_p rfl h (fun hc42 h => ?_) (fun hc42 h => ?_)
  ·
   refine TC.skip ?_
   exact fun a W hF hO => ⟨decide (a0 = 1), h, hF.sub ⟨rfl, rfl, trivial⟩, hO.selT (Ls := []) [] 0 rfl rfl rfl⟩
  ·
   refine TC.seq ?_
   refine TC.region ?_
   refine TL.cons (TO.val rfl rfl rfl (Val.cmp rfl rfl run_eql) ?_)
   refine TL.cons (TO.val rfl rfl rfl (Val.assign rfl) ?_)
   refine TL.nil ?_
   refine TQ.then_ ?_
   refine TC.cond_p rfl h (fun hc48 h => ?_) (fun hc48 h => ?_)
   ·
    refine TC.skip ?_
    exact fun a W hF hO => ⟨decide (a0 = 3), h, hF.sub ⟨rfl, rfl, trivial⟩, hO.selT (Ls := []) [] 0 rfl rfl rfl⟩
   ·
    refine TC.seq ?_
    refine TC.region ?_
    refine TL.cons (TO.val rfl rfl rfl (Val.cmp rfl rfl run_eql) ?_)
    refine TL.cons (TO.val rfl rfl rfl (Val.assign rfl) ?_)
    refine TL.nil ?_
    refine TQ.then_ ?_
    refine TC.cond_p rfl h (fun hc53 h => ?_) (fun hc53 h => ?_)
    ·
     refine TC.skip ?_
     exact fun a W hF hO => ⟨decide (a0 = 6), h, hF.sub ⟨rfl, rfl, trivial⟩, hO.selT (Ls := []) [] 0 rfl rfl rfl⟩
    ·
     refine TC.seq ?_
     refine TC.region ?_
     refine TL.cons (TO.val rfl rfl rfl (Val.cmp rfl rfl run_eql) ?_)
     refine TL.cons (TO.val rfl rfl rfl (Val.assign rfl) ?_)
     refine TL.nil ?_
     refine TQ.then_ ?_
     refine TC.cond_p rfl h (fun hc57 h => ?_) (fun hc57 h => ?_)
     ·
      refine TC.skip ?_
      exact fun a W hF hO => ⟨decide (a0 = 7), h, hF.sub ⟨rfl, rfl, trivial⟩, hO.selT (Ls := []) [] 0 rfl rfl rfl⟩
     ·
      refine TC.seq ?_
      refine TC.region ?_
      refine TL.cons (TO.val rfl rfl rfl (Val.cmp rfl rfl run_eql) ?_)
      refine TL.cons (TO.val rfl rfl rfl (Val.assign rfl) ?_)
      refine TL.nil ?_
      refine TQ.then_ ?_
      refine TC.cond_p rfl h (fun hc60 h => ?_) (fun hc60 h => ?_)
      ·
       refine TC.skip ?_
       exact fun a W hF hO => ⟨decide (a0 = 8), h, hF.sub ⟨rfl, rfl, trivial⟩, hO.selT (Ls := []) [] 0 rfl rfl rfl⟩
      ·
       refine TC.seq ?_
       refine TC.region ?_
       refine TL.cons (TO.val rfl rfl rfl (Val.cmp rfl rfl run_eql) ?_)
       refine TL.cons (TO.val rfl rfl rfl (Val.assign rfl) ?_)
       refine TL.nil ?_
       refine TQ.then_ ?_
       refine TC.cond_p rfl h (fun hc62 h => ?_) (fun hc62 h => ?_)
       ·
        refine TC.skip ?_
        exact fun a W hF hO => ⟨decide (a0 = 13), h, hF.sub ⟨rfl, rfl, trivial⟩, hO.selT (Ls := []) [] 0 rfl rfl rfl⟩
       ·
        refine TC.region ?_
        refine TL.cons (TO.val rfl rfl rfl (Val.cmp rfl rfl run_eql) ?_)
        refine TL.cons (TO.val rfl rfl rfl (Val.assign rfl) ?_)
        refine TL.nil ?_
        exact fun a W hF hO => ⟨decide (a0 = 14), h, hF.sub ⟨rfl, rfl, trivial⟩, hO.selT (Ls := []) [] 0 rfl rfl rfl⟩
end Go.Proofs.Ytmacdhkfgoahcaa.Sy
set_option linter.unusedVariables false
set_option linter.unusedSimpArgs false
set_option maxRecDepth 100000
set_option maxHeartbeats 4000000
namespace Go.Proofs.Ytmacdhkfgoahcaa.Sy
open Go Go.RowKit Go.Proofs.YtmacdhkfgoahcaaW.PrintWords 
def word_Fold.f (a0 : Int) (a1 : Int) : Option (Int × Bool) := jn (γ := (Int × Bool)) (fun (x28 : Bool) => (if x28 = true then some (0, true) else jn (γ := (Int × Bool)) (fun (x38 : Bool) => (if x38 = true then some (1, true) else some (0, false))) (fun (j39 : (Bool → Option (Int × Bool))) => (if a0 = 12 then j39 (decide (a0 = 12)) else j39 (decide (a0 = 13)))))) (fun (j29 : (Bool → Option (Int × Bool))) => (if a0 = 2 then j29 (decide (a0 = 2)) else (if a0 = 8 then j29 (decide (a0 = 8)) else (if a0 = 11 then j29 (decide (a0 = 11)) else j29 (decide (a0 = 14))))))
def word_Fold.post (G : Gd)  (r : (Int × Bool)) (v : Value) (G' : Gd) (Lr : List Ch) : Prop := G = G' ∧ v = .tuple #[.int .i64 r.1, .bool r.2] ∧ Lr = []
theorem word_Fold.calls {G : Gd} {r : (Int × Bool)} {a0 : Int} {a1 : Int} (h : word_Fold.f a0 a1 = some r) : Fn Try.prog 90 G [] [.int .i64 a0, .int .i64 a1] (word_Fold.post G  r) := by
 refine Fn.intro (e := [(0, .int .i64 a0), (1, .int .i64 a1)]) 15 Try.func90 rfl Try.ntmps90 rfl rfl (Nat.le_of_ble_eq_true rfl) (fun L => ?_)
 unfold word_Fold.f at h
 refine TC.seq ?_
 refine TC.region ?_
 refine TL.cons (TO.val rfl rfl rfl (Val.assign rfl) ?_)
 refine TL.cons (TO.val rfl rfl rfl (Val.assign rfl) ?_)
 refine TL.nil ?_
 refine TQ.then_ ?_
 refine TC.seq ?_
 refine TC.seq ?_
 refine TC.region ?_
 refine TL.cons (TO.val rfl rfl rfl (Val.move rfl) ?_)
 refine TL.nil ?_
 refine TQ.then_ ?_
 refine TC.block ?_
 refine TC.seq ?_
 refine TC.seq ?_
 refine TC.region ?_
 refine TL.cons (TO.val rfl rfl rfl (Val.cmp rfl rfl run_eql) ?_)
 refine TL.cons (TO.val rfl rfl rfl (Val.assign rfl) ?_)
 refine TL.nil ?_
 refine TQ.then_ ?_
 obtain ⟨j29, hj29, h⟩ := jn_no h
 refine TC.tail (fun a W => ∃ (x28 : Bool), j29 x28 = some r ∧ Fr 15 a [(6, .int .i64 a0), (7, .bool x28)] ∧ Own G (L) W) ?_ ?_
 ·
  rintro a W ⟨x28, h, hF, hO⟩
  rw [hj29] at h
  refine TQ.use ?_ hF hO
  clear hF hO
  refine TQ.then_ ?_
  refine TC.cond_b rfl h (fun hc36 h => ?_) (fun hc36 h => ?_)
  ·
   refine TC.seq ?_
   refine TC.region ?_
   refine TL.cons (TO.val rfl rfl rfl (Val.assign rfl) ?_)
   refine TL.cons (TO.val rfl rfl rfl (Val.assign rfl) ?_)
   refine TL.nil ?_
   refine TQ.then_ ?_
   refine TC.ret ?_
   refine TQ.inBR ?_
   refine TQ.thenR ?_
   obtain rfl := Option.some.inj h
   exact TQ.fin (.inl rfl) rfl Try.results90 (.tmp rfl (.tmp rfl .nil)) rfl (FRel.mk (Ls := []) [] 0 (Gd.le.refl _) rfl rfl rfl ⟨rfl, rfl, rfl⟩)
  ·
   refine TC.seq ?_
   refine TC.seq ?_
   refine TC.region ?_
   refine TL.cons (TO.val rfl rfl rfl (Val.cmp rfl rfl run_eql) ?_)
   refine TL.cons (TO.val rfl rfl rfl (Val.assign rfl) ?_)
   refine TL.nil ?_
   refine TQ.then_ ?_
   obtain ⟨j39, hj39, h⟩ := jn_no h
   refine TC.tail (fun a W => ∃ (x38 : Bool), j39 x38 = some r ∧ Fr 15 a [(12, .bool x38)] ∧ Own G (L) W) ?_ ?_
   ·
    rintro a W ⟨x38, h, hF, hO⟩
    rw [hj39] at h
    refine TQ.use ?_ hF hO
    clear hF hO
    refine TQ.then_ ?_
    refine TC.cond_b rfl h (fun hc41 h => ?_) (fun hc41 h => ?_)
    ·
     refine TC.seq ?_
     refine TC.region ?_
     refine TL.cons (TO.val rfl rfl rfl (Val.assign rfl) ?_)
     refine TL.cons (TO.val rfl rfl rfl (Val.assign rfl) ?_)
     refine TL.nil ?_
     refine TQ.then_ ?_
     refine TC.ret ?_
     refine TQ.inBR ?_
     refine TQ.thenR ?_
     obtain rfl := Option.some.inj h
     exact TQ.fin (.inl rfl) rfl Try.results90 (.tmp rfl (.tmp rfl .nil)) rfl (FRel.mk (Ls := []) [] 0 (Gd.le.refl _) rfl rfl rfl ⟨rfl, rfl, rfl⟩)
    ·
     refine TC.skip ?_
     refine TQ.inB ?_
     refine TQ.then_ ?_
     refine TC.seq ?_
     refine TC.region ?_
     refine TL.cons (TO.val rfl rfl rfl (Val.assign rfl) ?_)
     refine TL.cons (TO.val rfl rfl rfl (Val.assign rfl) ?_)
     refine TL.nil ?_
     refine TQ.then_ ?_
     refine TC.ret ?_
     obtain rfl := Option.some.inj h
     exact TQ.fin (.inl rfl) rfl Try.results90 (.tmp rfl (.tmp rfl .nil)) rfl (FRel.mk (Ls := []) [] 0 (Gd.le.refl _) rfl rfl rfl ⟨rfl, rfl, rfl⟩)
   ·
    refine TC.cond_p rfl h (fun hc42 h => ?_) (fun hc42 h => ?_)
    ·
     refine TC.skip ?_
     exact fun a W hF hO => ⟨decide (a0 = 12), h, hF.sub ⟨rfl, trivial⟩, hO.selT (Ls := []) [] 0 rfl rfl rfl⟩
    ·
     refine TC.region ?_
     refine TL.cons (TO.val rfl rfl rfl (Val.cmp rfl rfl run_eql) ?_)
     refine TL.cons (TO.val rfl rfl rfl (Val.assign rfl) ?_)
     refine TL.nil ?_
     exact fun a W hF hO => ⟨decide (a0 = 13), h, hF.sub ⟨rfl, trivial⟩, hO.selT (Ls := []) [] 0 rfl rfl rfl⟩
 ·
  refine TC.cond_p rfl h (fun hc43 h => ?_) (fun hc43 h => ?_)
  ·
   refine TC.skip ?_
   exact fun a W hF hO => ⟨decide (a0 = 2), h, hF.sub ⟨rfl, rfl, trivial⟩, hO.selT (Ls := []) [] 0 rfl rfl rfl⟩
  ·
   refine TC.seq ?_
   refine TC.region ?_
   refine TL.cons (TO.val rfl rfl rfl (Val.cmp rfl rfl run_eql) ?_)
   refine TL.cons (TO.val rfl rfl rfl (Val.assign rfl) ?_)
   refine TL.nil ?_
   refine TQ.then_ ?_
   refine TC.cond_p rfl h (fun hc46 h => ?_) (fun hc46 h => ?_)
   ·
    refine TC.skip ?_
    exact fun a W hF hO => ⟨decide (a0 = 8), h, hF.sub ⟨rfl, rfl, trivial⟩, hO.selT (Ls := []) [] 0 rfl rfl rfl⟩
   ·
    refine TC.seq ?_
    refine TC.region ?_
    refine TL.cons (TO.val rfl rfl rfl (Val.cmp rfl rfl run_eql) ?_)
    refine TL.cons (TO.val rfl rfl rfl (Val.assign rfl) ?_)
    refine TL.nil ?_
    refine TQ.then_ ?_
    refine TC.cond_p rfl h (fun hc48 h => ?_) (fun hc48 h => ?_)
    ·
     refine TC.skip ?_
     exact fun a W hF hO => ⟨decide (a0 = 11), h, hF.sub ⟨rfl, rfl, trivial⟩, hO.selT (Ls := []) [] 0 rfl rfl rfl⟩
    ·
     refine TC.region ?_
     refine TL.cons (TO.val rfl rfl rfl (Val.cmp rfl rfl run_eql) ?_)
     refine TL.cons (TO.val rfl rfl rfl (Val.assign rfl) ?_)
     refine TL.nil ?_
     exact fun a W hF hO => ⟨decide (a0 = 14), h, hF.sub ⟨rfl, rfl, trivial⟩, hO.selT (Ls := []) [] 0 rfl rfl rfl⟩
end Go.Proofs.Ytmacdhkfgoahcaa.Sy
set_option linter.unusedVariables false
set_option linter.unusedSimpArgs false
set_option maxRecDepth 100000
set_option maxHeartbeats 4000000
namespace Go.Proofs.Ytmacdhkfgoahcaa.Sy
open Go Go.RowKit Go.Proofs.YtmacdhkfgoahcaaW.PrintWords 
def fold_Neutral.f (a0 : Int) (a1 : Int) : Option Bool := jn (γ := Bool) (fun (x45 : Bool) => (if x45 = true then some (decide (a1 = 0)) else jn (γ := Bool) (fun (x56 : Bool) => (if x56 = true then some (decide (a1 = 1)) else (if a0 = 6 then some (decide (a1 = (-1))) else some false))) (fun (j57 : (Bool → Option Bool)) => (if a0 = 3 then j57 (decide (a0 = 3)) else j57 (decide (a0 = 4)))))) (fun (j46 : (Bool → Option Bool)) => (if a0 = 1 then j46 (decide (a0 = 1)) else (if a0 = 2 then j46 (decide (a0 = 2)) else (if a0 = 7 then j46 (decide (a0 = 7)) else (if a0 = 8 then j46 (decide (a0 = 8)) else (if a0 = 9 then j46 (decide (a0 = 9)) else j46 (decide (a0 = 10))))))))
def fold_Neutral.post (G : Gd)  (r : Bool) (v : Value) (G' : Gd) (Lr : List Ch) : Prop := G = G' ∧ v = .bool r ∧ Lr = []
theorem fold_Neutral.calls {G : Gd} {r : Bool} {a0 : Int} {a1 : Int} (h : fold_Neutral.f a0 a1 = some r) : Fn Try.prog 53 G [] [.int .i64 a0, .int .i64 a1] (fold_Neutral.post G  r) := by
 refine Fn.intro (e := [(0, .int .i64 a0), (1, .int .i64 a1)]) 24 Try.func53 rfl Try.ntmps53 rfl rfl (Nat.le_of_ble_eq_true rfl) (fun L => ?_)
 unfold fold_Neutral.f at h
 refine TC.seq ?_
 refine TC.region ?_
 refine TL.cons (TO.val rfl rfl rfl (Val.assign rfl) ?_)
 refine TL.nil ?_
 refine TQ.then_ ?_
 refine TC.seq ?_
 refine TC.seq ?_
 refine TC.region ?_
 refine TL.cons (TO.val rfl rfl rfl (Val.move rfl) ?_)
 refine TL.nil ?_
 refine TQ.then_ ?_
 refine TC.block ?_
 refine TC.seq ?_
 refine TC.seq ?_
 refine TC.region ?_
 refine TL.cons (TO.val rfl rfl rfl (Val.cmp rfl rfl run_eql) ?_)
 refine TL.cons (TO.val rfl rfl rfl (Val.assign rfl) ?_)
 refine TL.nil ?_
 refine TQ.then_ ?_
 obtain ⟨j46, hj46, h⟩ := jn_no h
 refine TC.tail (fun a W => ∃ (x45 : Bool), j46 x45 = some r ∧ Fr 24 a [(1, .int .i64 a1), (5, .int .i64 a0), (6, .bool x45)] ∧ Own G (L) W) ?_ ?_
 ·
  rintro a W ⟨x45, h, hF, hO⟩
  rw [hj46] at h
  refine TQ.use ?_ hF hO
  clear hF hO
  refine TQ.then_ ?_
  refine TC.cond_b rfl h (fun hc54 h => ?_) (fun hc54 h => ?_)
  ·
   refine TC.seq ?_
   refine TC.region ?_
   refine TL.cons (TO.val rfl rfl rfl (Val.move rfl) ?_)
   refine TL.cons (TO.val rfl rfl rfl (Val.cmp rfl rfl run_eql) ?_)
   refine TL.cons (TO.val rfl rfl rfl (Val.assign rfl) ?_)
   refine TL.nil ?_
   refine TQ.then_ ?_
   refine TC.ret ?_
   refine TQ.inBR ?_
   refine TQ.thenR ?_
   obtain rfl := Option.some.inj h
   exact TQ.fin (.inl rfl) rfl Try.results53 (.tmp rfl .nil) rfl (FRel.mk (Ls := []) [] 0 (Gd.le.refl _) rfl rfl rfl ⟨rfl, rfl, rfl⟩)
  ·
   refine TC.seq ?_
   refine TC.seq ?_
   refine TC.region ?_
   refine TL.cons (TO.val rfl rfl rfl (Val.cmp rfl rfl run_eql) ?_)
   refine TL.cons (TO.val rfl rfl rfl (Val.assign rfl) ?_)
   refine TL.nil ?_
   refine TQ.then_ ?_
   obtain ⟨j57, hj57, h⟩ := jn_no h
   refine TC.tail (fun a W => ∃ (x56 : Bool), j57 x56 = some r ∧ Fr 24 a [(1, .int .i64 a1), (5, .int .i64 a0), (15, .bool x56)] ∧ Own G (L) W) ?_ ?_
   ·
    rintro a W ⟨x56, h, hF, hO⟩
    rw [hj57] at h
    refine TQ.use ?_ hF hO
    clear hF hO
    refine TQ.then_ ?_
    refine TC.cond_b rfl h (fun hc60 h => ?_) (fun hc60 h => ?_)
    ·
     refine TC.seq ?_
     refine TC.region ?_
     refine TL.cons (TO.val rfl rfl rfl (Val.move rfl) ?_)
     refine TL.cons (TO.val rfl rfl rfl (Val.cmp rfl rfl run_eql) ?_)
     refine TL.cons (TO.val rfl rfl rfl (Val.assign rfl) ?_)
     refine TL.nil ?_
     refine TQ.then_ ?_
     refine TC.ret ?_
     refine TQ.inBR ?_
     refine TQ.thenR ?_
     obtain rfl := Option.some.inj h
     exact TQ.fin (.inl rfl) rfl Try.results53 (.tmp rfl .nil) rfl (FRel.mk (Ls := []) [] 0 (Gd.le.refl _) rfl rfl rfl ⟨rfl, rfl, rfl⟩)
    ·
     refine TC.seq ?_
     refine TC.region ?_
     refine TL.cons (TO.val rfl rfl rfl (Val.cmp rfl rfl run_eql) ?_)
     refine TL.cons (TO.val rfl rfl rfl (Val.assign rfl) ?_)
     refine TL.nil ?_
     refine TQ.then_ ?_
     refine TC.cond_p rfl h (fun hc62 h => ?_) (fun hc62 h => ?_)
     ·
      refine TC.seq ?_
      refine TC.region ?_
      refine TL.cons (TO.val rfl rfl rfl (Val.move rfl) ?_)
      refine TL.cons (TO.val rfl rfl rfl (Val.cmp rfl rfl run_eql) ?_)
      refine TL.cons (TO.val rfl rfl rfl (Val.assign rfl) ?_)
      refine TL.nil ?_
      refine TQ.then_ ?_
      refine TC.ret ?_
      refine TQ.inBR ?_
      refine TQ.thenR ?_
      obtain rfl := Option.some.inj h
      exact TQ.fin (.inl rfl) rfl Try.results53 (.tmp rfl .nil) rfl (FRel.mk (Ls := []) [] 0 (Gd.le.refl _) rfl rfl rfl ⟨rfl, rfl, rfl⟩)
     ·
      refine TC.skip ?_
      refine TQ.inB ?_
      refine TQ.then_ ?_
      refine TC.seq ?_
      refine TC.region ?_
      refine TL.cons (TO.val rfl rfl rfl (Val.assign rfl) ?_)
      refine TL.nil ?_
      refine TQ.then_ ?_
      refine TC.ret ?_
      obtain rfl := Option.some.inj h
      exact TQ.fin (.inl rfl) rfl Try.results53 (.tmp rfl .nil) rfl (FRel.mk (Ls := []) [] 0 (Gd.le.refl _) rfl rfl rfl ⟨rfl, rfl, rfl⟩)
   ·
    refine TC.cond_p rfl h (fun hc63 h => ?_) (fun hc63 h => ?_)
    ·
     refine TC.skip ?_
     exact fun a W hF hO => ⟨decide (a0 = 3), h, hF.sub ⟨rfl, rfl, rfl, trivial⟩, hO.selT (Ls := []) [] 0 rfl rfl rfl⟩
    ·
     refine TC.region ?_
     refine TL.cons (TO.val rfl rfl rfl (Val.cmp rfl rfl run_eql) ?_)
     refine TL.cons (TO.val rfl rfl rfl (Val.assign rfl) ?_)
     refine TL.nil ?_
     exact fun a W hF hO => ⟨decide (a0 = 4), h, hF.sub ⟨rfl, rfl, rfl, trivial⟩, hO.selT (Ls := []) [] 0 rfl rfl rfl⟩
 ·
  refine TC.cond_p rfl h (fun hc64 h => ?_) (fun hc64 h => ?_)
  ·
   refine TC.skip ?_
   exact fun a W hF hO => ⟨decide (a0 = 1), h, hF.sub ⟨rfl, rfl, rfl, trivial⟩, hO.selT (Ls := []) [] 0 rfl rfl rfl⟩
  ·
   refine TC.seq ?_
   refine TC.region ?_
   refine TL.cons (TO.val rfl rfl rfl (Val.cmp rfl rfl run_eql) ?_)
   refine TL.cons (TO.val rfl rfl rfl (Val.assign rfl) ?_)
   refine TL.nil ?_
   refine TQ.then_ ?_
   refine TC.cond_p rfl h (fun hc69 h => ?_) (fun hc69 h => ?_)
   ·
    refine TC.skip ?_
    exact fun a W hF hO => ⟨decide (a0 = 2), h, hF.sub ⟨rfl, rfl, rfl, trivial⟩, hO.selT (Ls := []) [] 0 rfl rfl rfl⟩
   ·
    refine TC.seq ?_
    refine TC.region ?_
    refine TL.cons (TO.val rfl rfl rfl (Val.cmp rfl rfl run_eql) ?_)
    refine TL.cons (TO.val rfl rfl rfl (Val.assign rfl) ?_)
    refine TL.nil ?_
    refine TQ.then_ ?_
    refine TC.cond_p rfl h (fun hc73 h => ?_) (fun hc73 h => ?_)
    ·
     refine TC.skip ?_
     exact fun a W hF hO => ⟨decide (a0 = 7), h, hF.sub ⟨rfl, rfl, rfl, trivial⟩, hO.selT (Ls := []) [] 0 rfl rfl rfl⟩
    ·
     refine TC.seq ?_
     refine TC.region ?_
     refine TL.cons (TO.val rfl rfl rfl (Val.cmp rfl rfl run_eql) ?_)
     refine TL.cons (TO.val rfl rfl rfl (Val.assign rfl) ?_)
     refine TL.nil ?_
     refine TQ.then_ ?_
     refine TC.cond_p rfl h (fun hc76 h => ?_) (fun hc76 h => ?_)
     ·
      refine TC.skip ?_
      exact fun a W hF hO => ⟨decide (a0 = 8), h, hF.sub ⟨rfl, rfl, rfl, trivial⟩, hO.selT (Ls := []) [] 0 rfl rfl rfl⟩
     ·
      refine TC.seq ?_
      refine TC.region ?_
      refine TL.cons (TO.val rfl rfl rfl (Val.cmp rfl rfl run_eql) ?_)
      refine TL.cons (TO.val rfl rfl rfl (Val.assign rfl) ?_)
      refine TL.nil ?_
      refine TQ.then_ ?_
      refine TC.cond_p rfl h (fun hc78 h => ?_) (fun hc78 h => ?_)
      ·
       refine TC.skip ?_
       exact fun a W hF hO => ⟨decide (a0 = 9), h, hF.sub ⟨rfl, rfl, rfl, trivial⟩, hO.selT (Ls := []) [] 0 rfl rfl rfl⟩
      ·
       refine TC.region ?_
       refine TL.cons (TO.val rfl rfl rfl (Val.cmp rfl rfl run_eql) ?_)
       refine TL.cons (TO.val rfl rfl rfl (Val.assign rfl) ?_)
       refine TL.nil ?_
       exact fun a W hF hO => ⟨decide (a0 = 10), h, hF.sub ⟨rfl, rfl, rfl, trivial⟩, hO.selT (Ls := []) [] 0 rfl rfl rfl⟩
end Go.Proofs.Ytmacdhkfgoahcaa.Sy
set_option linter.unusedVariables false
set_option linter.unusedSimpArgs false
set_option maxRecDepth 100000
set_option maxHeartbeats 4000000
namespace Go.Proofs.Ytmacdhkfgoahcaa.Sy
open Go Go.RowKit Go.Proofs.YtmacdhkfgoahcaaW.PrintWords 
def fold_numbers_neutral.f (a0_0 : MpS) (a1 : Int) (a2 : Int) : Option Bool := (if wfi a2 then (if (mhas a0_0 a2) = true then (fold_Neutral.f a1 (mget a0_0 a2)).bind fun (y10 : Bool) => some y10 else some false) else none)
def fold_numbers_neutral.post (G : Gd) (b1 : Nat) (a0_0 : MpS) (a1 : Int) (a2 : Int) (r : Bool) (v : Value) (G' : Gd) (Lr : List Ch) : Prop := G = G' ∧ v = .bool r ∧ Lr = [Mp Try.prog 3 3 b1 a0_0]
theorem fold_numbers_neutral.calls {G : Gd} {r : Bool} {a0_0 : MpS} {a1 : Int} {a2 : Int} {b1 : Nat} (h : fold_numbers_neutral.f a0_0 a1 a2 = some r) : Fn Try.prog 91 G [Mp Try.prog 3 3 b1 a0_0] [.map (some b1), .int .i64 a1, .int .i64 a2] (fold_numbers_neutral.post G b1 a0_0 a1 a2 r) := by
 refine Fn.intro (e := [(0, .map (some b1)), (1, .int .i64 a1), (2, .int .i64 a2)]) 21 Try.func91 rfl Try.ntmps91 rfl rfl (Nat.le_of_ble_eq_true rfl) (fun L => ?_)
 unfold fold_numbers_neutral.f at h
 refine TC.seq ?_
 refine TC.region ?_
 refine TL.cons (TO.val rfl rfl rfl (Val.assign rfl) ?_)
 refine TL.nil ?_
 refine TQ.then_ ?_
 refine TC.seq ?_
 refine TC.region ?_
 refine TL.cons (TO.val rfl rfl rfl (Val.move rfl) ?_)
 refine TL.cons (TO.val rfl rfl rfl (Val.move rfl) ?_)
 obtain ⟨hz2, h⟩ := ite_no h
 refine TL.cons (TO.val rfl rfl rfl (Val.lookupOk 0 Try.underlying81 Try.underlying3 Try.underlying3 zr3 rfl rfl rfl hz2) ?_)
 refine TL.cons (TO.val rfl rfl rfl (Val.move rfl) ?_)
 refine TL.cons (TO.val rfl rfl rfl (Val.extract rfl rfl) ?_)
 refine TL.cons (TO.val rfl rfl rfl (Val.extract rfl rfl) ?_)
 refine TL.cons (TO.val rfl rfl rfl (Val.assign rfl) ?_)
 refine TL.cons (TO.val rfl rfl rfl (Val.assign rfl) ?_)
 refine TL.nil ?_
 refine TQ.then_ ?_
 refine TC.seq ?_
 refine TC.region ?_
 refine TL.cons (TO.val rfl rfl rfl (Val.move rfl) ?_)
 refine TL.cons (TO.val rfl rfl rfl (Val.move rfl) ?_)
 refine TK.split (p := (mhas a0_0 a2) = true) h (fun hg8 h => ?_) (fun hg8 h => ?_)
 ·
  have hk9 : (mhas a0_0 a2) = true := hg8
  refine TL.cons (TO.val (Wt.yes rfl rfl rfl hk9) rfl rfl (Val.move rfl) ?_)
  refine TL.cons (TO.val (Wt.yes rfl rfl rfl hk9) rfl rfl (Val.move rfl) ?_)
  obtain ⟨y10, hy11, h⟩ := bind_no h
  refine TL.cons (TL.callV (Lin := []) (args := [.int .i64 a1, .int .i64 (mget a0_0 a2)]) (Wt.yes rfl rfl rfl hk9) rfl rfl hbd53 rfl rfl (fold_Neutral.calls (a0 := a1) (a1 := (mget a0_0 a2)) hy11) rfl ?_)
  rintro _ _ _ _ ⟨rfl, rfl, rfl⟩
  refine TL.cons (TO.val rfl rfl rfl (Val.pickY rfl hk9 rfl) ?_)
  refine TL.cons (TO.val rfl rfl rfl (Val.assign rfl) ?_)
  refine TL.nil ?_
  refine TQ.then_ ?_
  refine TC.ret ?_
  obtain rfl := Option.some.inj h
  exact TQ.fin (.inl rfl) rfl Try.results91 (.tmp rfl .nil) rfl (FRel.mk (Ls := [Mp Try.prog 3 3 b1 a0_0]) [0] 1 (Gd.le.refl _) rfl rfl rfl ⟨rfl, rfl, rfl⟩)
 ·
  have hk12 : (mhas a0_0 a2) = false := (by simpa using hg8)
  refine TL.cons (TL.not (Wt.no rfl rfl rfl hk12) rfl ?_)
  refine TL.cons (TL.not (Wt.no rfl rfl rfl hk12) rfl ?_)
  refine TL.cons (TL.not (Wt.no rfl rfl rfl hk12) rfl ?_)
  refine TL.cons (TO.val rfl rfl rfl (Val.pickN rfl hk12 rfl) ?_)
  refine TL.cons (TO.val rfl rfl rfl (Val.assign rfl) ?_)
  refine TL.nil ?_
  refine TQ.then_ ?_
  refine TC.ret ?_
  obtain rfl := Option.some.inj h
  exact TQ.fin (.inl rfl) rfl Try.results91 (.tmp rfl .nil) rfl (FRel.mk (Ls := [Mp Try.prog 3 3 b1 a0_0]) [0] 1 (Gd.le.refl _) rfl rfl rfl ⟨rfl, rfl, rfl⟩)
end Go.Proofs.Ytmacdhkfgoahcaa.Sy
set_option linter.unusedVariables false
set_option linter.unusedSimpArgs false
set_option maxRecDepth 100000
set_option maxHeartbeats 4000000
namespace Go.Proofs.Ytmacdhkfgoahcaa.Sy
open Go Go.RowKit Go.Proofs.YtmacdhkfgoahcaaW.PrintWords 
def fold_move.f (a0 : S30) (a1 : Int) : Option S30 := some (⟨3, a0.f1, a1, 0, 0, ([] : List Int)⟩ : S30)
def fold_move.post (G : Gd)  (r : S30) (v : Value) (G' : Gd) (Lr : List Ch) : Prop := G = G' ∧ ∃ (A_1 : Option Addr) (c_1 : Nat), v = .agg #[.int .i64 r.f0, .int .i64 r.f1, .int .i64 r.f2, .int .i64 r.f3, .int .i64 r.f4, .slice A_1 r.f5.length c_1] ∧ Lr = [Row (Kd.int .i64) 3 (.slice A_1 r.f5.length c_1) r.f5]
theorem fold_move.calls {G : Gd} {r : S30} {a0 : S30} {a1 : Int} {A1 : Option Addr} {c2 : Nat} (hr3 : Rd G (Kd.int .i64) A1 a0.f5) (hl4 : a0.f5.length ≤ c2) (h : fold_move.f a0 a1 = some r) : Fn Try.prog 92 G [] [.agg #[.int .i64 a0.f0, .int .i64 a0.f1, .int .i64 a0.f2, .int .i64 a0.f3, .int .i64 a0.f4, .slice A1 a0.f5.length c2], .int .i64 a1] (fold_move.post G  r) := by
 refine Fn.intro (e := [(0, .agg #[.int .i64 a0.f0, .int .i64 a0.f1, .int .i64 a0.f2, .int .i64 a0.f3, .int .i64 a0.f4, .slice A1 a0.f5.length c2]), (1, .int .i64 a1)]) 9 Try.func92 rfl Try.ntmps92 rfl rfl (Nat.le_of_ble_eq_true rfl) (fun L => ?_)
 unfold fold_move.f at h
 refine TC.seq ?_
 refine TC.region ?_
 refine TL.cons (TL.box (cs := [.int .i64 a0.f0, .int .i64 a0.f1, .int .i64 a0.f2, .int .i64 a0.f3, .int .i64 a0.f4, .slice A1 a0.f5.length c2]) rfl rfl rfl rfl (fun b5 => ?_))
 refine TL.cons (TL.alloc (cs := [.int .i64 0, .int .i64 0, .int .i64 0, .int .i64 0, .int .i64 0, .slice none 0 0]) rfl rfl zr30 rfl (fun b6 => ?_))
 refine TL.nil ?_
 refine TQ.then_ ?_
 refine TC.seq ?_
 refine TC.region ?_
 refine TL.cons (TO.val rfl rfl rfl (Val.fieldAddrB Try.underlying30 rfl fsz3 rfl rfl rfl) ?_)
 refine TL.cons (TO.val rfl rfl rfl (Val.loadB 1 agg3 rfl rfl rfl) ?_)
 refine TL.cons (TO.val rfl rfl rfl (Val.move rfl) ?_)
 refine TL.cons (TO.val rfl rfl rfl (Val.build (cs := [.int .i64 3, .int .i64 a0.f1, .int .i64 a1, .int .i64 0, .int .i64 0, .slice none 0 0]) (is := [0, 1, 2]) (xs := [.const (.int .i64 3), .tmp 6, .tmp 7]) Try.underlying30 zr30 bld30 rfl rfl rfl rfl) ?_)
 refine TL.cons (TL.store 0 (ds := [.int .i64 3, .int .i64 a0.f1, .int .i64 a1, .int .i64 0, .int .i64 0, .slice none 0 0]) (cs' := [.int .i64 3, .int .i64 a0.f1, .int .i64 a1, .int .i64 0, .int .i64 0, .slice none 0 0]) (L' := (Blk b6 [.int .i64 3, .int .i64 a0.f1, .int .i64 a1, .int .i64 0, .int .i64 0, .slice none 0 0] 30 :: Blk b5 [.int .i64 a0.f0, .int .i64 a0.f1, .int .i64 a0.f2, .int .i64 a0.f3, .int .i64 a0.f4, .slice A1 a0.f5.length c2] 30 :: L)) rfl fsz30 rfl rfl rfl rfl rfl (Nat.le_of_ble_eq_true rfl) rfl rfl ?_)
 refine TL.nil ?_
 refine TQ.then_ ?_
 refine TC.ret ?_
 refine TQ.nilRow (Kd.int .i64) 3 ?_
 obtain rfl := Option.some.inj h
 exact TQ.fin (.inl rfl) rfl Try.results92 (.cells 1 rfl rfl agg30 fsz30 .nil) rfl (FRel.mk (Ls := [Row (Kd.int .i64) 3 (.slice none 0 0) ([] : List Int)]) [0] 3 (Gd.le.refl _) rfl rfl rfl ⟨rfl, none, 0, rfl, rfl⟩)
end Go.Proofs.Ytmacdhkfgoahcaa.Sy
set_option linter.unusedVariables false
set_option linter.unusedSimpArgs false
set_option maxRecDepth 100000
set_option maxHeartbeats 4000000
namespace Go.Proofs.Ytmacdhkfgoahcaa.Sy
open Go Go.RowKit Go.Proofs.YtmacdhkfgoahcaaW.PrintWords 
def fold_numbers_zero.f (a0_0 : MpS) (a1 : Int) : Option Bool := (if wfi a1 then (if (mhas a0_0 a1) = true then some (decide ((mget a0_0 a1) = 0)) else some false) else none)
def fold_numbers_zero.post (G : Gd) (b1 : Nat) (a0_0 : MpS) (a1 : Int) (r : Bool) (v : Value) (G' : Gd) (Lr : List Ch) : Prop := G = G' ∧ v = .bool r ∧ Lr = [Mp Try.prog 3 3 b1 a0_0]
theorem fold_numbers_zero.calls {G : Gd} {r : Bool} {a0_0 : MpS} {a1 : Int} {b1 : Nat} (h : fold_numbers_zero.f a0_0 a1 = some r) : Fn Try.prog 93 G [Mp Try.prog 3 3 b1 a0_0] [.map (some b1), .int .i64 a1] (fold_numbers_zero.post G b1 a0_0 a1 r) := by
 refine Fn.intro (e := [(0, .map (some b1)), (1, .int .i64 a1)]) 18 Try.func93 rfl Try.ntmps93 rfl rfl (Nat.le_of_ble_eq_true rfl) (fun L => ?_)
 unfold fold_numbers_zero.f at h
 refine TC.seq ?_
 refine TC.region ?_
 refine TL.cons (TO.val rfl rfl rfl (Val.assign rfl) ?_)
 refine TL.nil ?_
 refine TQ.then_ ?_
 refine TC.seq ?_
 refine TC.region ?_
 refine TL.cons (TO.val rfl rfl rfl (Val.move rfl) ?_)
 refine TL.cons (TO.val rfl rfl rfl (Val.move rfl) ?_)
 obtain ⟨hz2, h⟩ := ite_no h
 refine TL.cons (TO.val rfl rfl rfl (Val.lookupOk 0 Try.underlying81 Try.underlying3 Try.underlying3 zr3 rfl rfl rfl hz2) ?_)
 refine TL.cons (TO.val rfl rfl rfl (Val.move rfl) ?_)
 refine TL.cons (TO.val rfl rfl rfl (Val.extract rfl rfl) ?_)
 refine TL.cons (TO.val rfl rfl rfl (Val.extract rfl rfl) ?_)
 refine TL.cons (TO.val rfl rfl rfl (Val.assign rfl) ?_)
 refine TL.cons (TO.val rfl rfl rfl (Val.assign rfl) ?_)
 refine TL.nil ?_
 refine TQ.then_ ?_
 refine TC.seq ?_
 refine TC.region ?_
 refine TL.cons (TO.val rfl rfl rfl (Val.move rfl) ?_)
 refine TL.cons (TO.val rfl rfl rfl (Val.move rfl) ?_)
 refine TK.split (p := (mhas a0_0 a1) = true) h (fun hg6 h => ?_) (fun hg6 h => ?_)
 ·
  have hk7 : (mhas a0_0 a1) = true := hg6
  refine TL.cons (TO.val (Wt.yes rfl rfl rfl hk7) rfl rfl (Val.move rfl) ?_)
  refine TL.cons (TO.val (Wt.yes rfl rfl rfl hk7) rfl rfl (Val.cmp rfl rfl run_eql) ?_)
  refine TL.cons (TO.val rfl rfl rfl (Val.pickY rfl hk7 rfl) ?_)
  refine TL.cons (TO.val rfl rfl rfl (Val.assign rfl) ?_)
  refine TL.nil ?_
  refine TQ.then_ ?_
  refine TC.ret ?_
  obtain rfl := Option.some.inj h
  exact TQ.fin (.inl rfl) rfl Try.results93 (.tmp rfl .nil) rfl (FRel.mk (Ls := [Mp Try.prog 3 3 b1 a0_0]) [0] 1 (Gd.le.refl _) rfl rfl rfl ⟨rfl, rfl, rfl⟩)
 ·
  have hk8 : (mhas a0_0 a1) = false := (by simpa using hg6)
  refine TL.cons (TL.not (Wt.no rfl rfl rfl hk8) rfl ?_)
  refine TL.cons (TL.not (Wt.no rfl rfl rfl hk8) rfl ?_)
  refine TL.cons (TO.val rfl rfl rfl (Val.pickN rfl hk8 rfl) ?_)
  refine TL.cons (TO.val rfl rfl rfl (Val.assign rfl) ?_)
  refine TL.nil ?_
  refine TQ.then_ ?_
  refine TC.ret ?_
  obtain rfl := Option.some.inj h
  exact TQ.fin (.inl rfl) rfl Try.results93 (.tmp rfl .nil) rfl (FRel.mk (Ls := [Mp Try.prog 3 3 b1 a0_0]) [0] 1 (Gd.le.refl _) rfl rfl rfl ⟨rfl, rfl, rfl⟩)
end Go.Proofs.Ytmacdhkfgoahcaa.Sy
set_option linter.unusedVariables false
set_option linter.unusedSimpArgs false
set_option maxRecDepth 100000
set_option maxHeartbeats 4000000
namespace Go.Proofs.Ytmacdhkfgoahcaa.Sy
open Go Go.RowKit Go.Proofs.YtmacdhkfgoahcaaW.PrintWords 
def fold_numbers_reckon.f (a0_0 : MpS) (a1 : S30) : Option S30 := (fold_numbers_both.f a0_0 a1).bind fun (y8 : (Int × Bool)) => (word_Turned.f a1.f4).bind fun (y10 : (Int × Bool)) => (word_Fold.f a1.f4 0).bind fun (y12 : (Int × Bool)) => (if y8.2 = true then (fold_constant.f a1 y8.1).bind fun (y617 : S30) => some y617 else (fold_numbers_neutral.f a0_0 a1.f4 a1.f3).bind fun (y627 : Bool) => (if y627 = true then (fold_move.f a1 a1.f2).bind fun (y736 : S30) => some y736 else jn (γ := S30) (fun (x751 : Bool) => (if x751 = true then (fold_move.f a1 a1.f3).bind fun (y842 : S30) => some y842 else jn (γ := S30) (fun (x872 : Bool) => (if x872 = true then (fold_constant.f a1 0).bind fun (y915 : S30) => some y915 else jn (γ := S30) (fun (x931 : Bool) => (if x931 = true then (fold_move.f a1 a1.f2).bind fun (y954 : S30) => some y954 else jn (γ := S30) (fun (x967 : Bool) => (if x967 = true then (fold_constant.f a1 y12.1).bind fun (y976 : S30) => some y976 else some a1)) (fun (j968 : (Bool → Option S30)) => (if a1.f2 = a1.f3 then j968 y12.2 else j968 false)))) (fun (j932 : (Bool → Option S30)) => (if a1.f2 = a1.f3 then (if a1.f4 = 6 then j932 true else j932 (decide (a1.f4 = 7))) else j932 false)))) (fun (j873 : (Bool → Option S30)) => (if a1.f4 = 3 then (fold_numbers_zero.f a0_0 a1.f2).bind fun (y997 : Bool) => (if y997 = true then j873 true else (fold_numbers_zero.f a0_0 a1.f3).bind fun (y1002 : Bool) => j873 y1002) else (if a1.f4 = 6 then (fold_numbers_zero.f a0_0 a1.f2).bind fun (y1007 : Bool) => (if y1007 = true then j873 true else (fold_numbers_zero.f a0_0 a1.f3).bind fun (y1012 : Bool) => j873 y1012) else j873 false))))) (fun (j752 : (Bool → Option S30)) => (if y10.2 = true then (fold_numbers_neutral.f a0_0 a1.f4 a1.f2).bind fun (y1017 : Bool) => j752 y1017 else j752 false))))
def fold_numbers_reckon.post (G : Gd) (b1 : Nat) (A2 : Option Addr) (c3 : Nat) (a0_0 : MpS) (a1 : S30) (r : S30) (v : Value) (G' : Gd) (Lr : List Ch) : Prop := ∃ (A_1 : Option Addr) (c_1 : Nat), v = .agg #[.int .i64 r.f0, .int .i64 r.f1, .int .i64 r.f2, .int .i64 r.f3, .int .i64 r.f4, .slice A_1 r.f5.length c_1] ∧ Lr = [Mp Try.prog 3 3 b1 a0_0] ∧ Rd G' (Kd.int .i64) A_1 r.f5 ∧ r.f5.length ≤ c_1
theorem fold_numbers_reckon.calls {G : Gd} {r : S30} {a0_0 : MpS} {a1 : S30} {b1 : Nat} {A2 : Option Addr} {c3 : Nat} (hr4 : Rd G (Kd.int .i64) A2 a1.f5) (hl5 : a1.f5.length ≤ c3) (h : fold_numbers_reckon.f a0_0 a1 = some r) : Fn Try.prog 78 G [Mp Try.prog 3 3 b1 a0_0] [.map (some b1), .agg #[.int .i64 a1.f0, .int .i64 a1.f1, .int .i64 a1.f2, .int .i64 a1.f3, .int .i64 a1.f4, .slice A2 a1.f5.length c3]] (fold_numbers_reckon.post G b1 A2 c3 a0_0 a1 r) := by
 refine Fn.intro (e := [(0, .map (some b1)), (1, .agg #[.int .i64 a1.f0, .int .i64 a1.f1, .int .i64 a1.f2, .int .i64 a1.f3, .int .i64 a1.f4, .slice A2 a1.f5.length c3])]) 113 Try.func78 rfl Try.ntmps78 rfl rfl (Nat.le_of_ble_eq_true rfl) (fun L => ?_)
 unfold fold_numbers_reckon.f at h
 refine TC.seq ?_
 refine TC.region ?_
 refine TL.cons (TL.box (cs := [.int .i64 a1.f0, .int .i64 a1.f1, .int .i64 a1.f2, .int .i64 a1.f3, .int .i64 a1.f4, .slice A2 a1.f5.length c3]) rfl rfl rfl rfl (fun b6 => ?_))
 refine TL.cons (TL.alloc (cs := [.int .i64 0, .int .i64 0, .int .i64 0, .int .i64 0, .int .i64 0, .slice none 0 0]) rfl rfl zr30 rfl (fun b7 => ?_))
 refine TL.nil ?_
 refine TQ.then_ ?_
 refine TC.seq ?_
 refine TC.region ?_
 refine TL.cons (TO.val rfl rfl rfl (Val.move rfl) ?_)
 refine TL.cons (TO.val rfl rfl rfl (Val.loadsB 1 (cs := [.int .i64 a1.f0, .int .i64 a1.f1, .int .i64 a1.f2, .int .i64 a1.f3, .int .i64 a1.f4, .slice A2 a1.f5.length c3]) agg30 fsz30 rfl rfl rfl rfl) ?_)
 refine TK.sel (Ls := [Mp Try.prog 3 3 b1 a0_0, Blk b7 [.int .i64 0, .int .i64 0, .int .i64 0, .int .i64 0, .int .i64 0, .slice none 0 0] 30, Blk b6 [.int .i64 a1.f0, .int .i64 a1.f1, .int .i64 a1.f2, .int .i64 a1.f3, .int .i64 a1.f4, .slice A2 a1.f5.length c3] 30]) [2, 0, 1] 3 rfl rfl rfl ?_
 obtain ⟨y8, hy9, h⟩ := bind_no h
 refine TL.cons (TL.callV (Lin := [Mp Try.prog 3 3 b1 a0_0]) (args := [.map (some b1), .agg #[.int .i64 a1.f0, .int .i64 a1.f1, .int .i64 a1.f2, .int .i64 a1.f3, .int .i64 a1.f4, .slice A2 a1.f5.length c3]]) rfl rfl rfl hbd88 rfl rfl (fold_numbers_both.calls (a0_0 := a0_0) (a1 := a1) hr4 hl5 hy9) rfl ?_)
 rintro _ _ _ _ ⟨rfl, rfl, rfl⟩
 refine TL.cons (TO.val rfl rfl rfl (Val.move rfl) ?_)
 refine TL.cons (TO.val rfl rfl rfl (Val.extract rfl rfl) ?_)
 refine TL.cons (TO.val rfl rfl rfl (Val.extract rfl rfl) ?_)
 refine TL.cons (TO.val rfl rfl rfl (Val.assign rfl) ?_)
 refine TL.cons (TO.val rfl rfl rfl (Val.assign rfl) ?_)
 refine TL.nil ?_
 refine TQ.then_ ?_
 refine TC.seq ?_
 refine TC.region ?_
 refine TL.cons (TO.val rfl rfl rfl (Val.fieldAddrB Try.underlying30 rfl fsz3 rfl rfl rfl) ?_)
 refine TL.cons (TO.val rfl rfl rfl (Val.loadB 2 agg3 rfl rfl rfl) ?_)
 obtain ⟨y10, hy11, h⟩ := bind_no h
 refine TL.cons (TL.callV (Lin := []) (args := [.int .i64 a1.f4]) rfl rfl rfl hbd89 rfl rfl (word_Turned.calls (a0 := a1.f4) hy11) rfl ?_)
 rintro _ _ _ _ ⟨rfl, rfl, rfl⟩
 refine TL.cons (TO.val rfl rfl rfl (Val.move rfl) ?_)
 refine TL.cons (TO.val rfl rfl rfl (Val.extract rfl rfl) ?_)
 refine TL.cons (TO.val rfl rfl rfl (Val.extract rfl rfl) ?_)
 refine TL.cons (TO.val rfl rfl rfl (Val.assign rfl) ?_)
 refine TL.cons (TO.val rfl rfl rfl (Val.assign rfl) ?_)
 refine TL.nil ?_
 refine TQ.then_ ?_
 refine TC.seq ?_
 refine TC.region ?_
 refine TL.cons (TO.val rfl rfl rfl (Val.fieldAddrB Try.underlying30 rfl fsz3 rfl rfl rfl) ?_)
 refine TL.cons (TO.val rfl rfl rfl (Val.loadB 2 agg3 rfl rfl rfl) ?_)
 obtain ⟨y12, hy13, h⟩ := bind_no h
 refine TL.cons (TL.callV (Lin := []) (args := [.int .i64 a1.f4, .int .i64 0]) rfl rfl rfl hbd90 rfl rfl (word_Fold.calls (a0 := a1.f4) (a1 := 0) hy13) rfl ?_)
 rintro _ _ _ _ ⟨rfl, rfl, rfl⟩
 refine TL.cons (TO.val rfl rfl rfl (Val.move rfl) ?_)
 refine TL.cons (TO.val rfl rfl rfl (Val.extract rfl rfl) ?_)
 refine TL.cons (TO.val rfl rfl rfl (Val.extract rfl rfl) ?_)
 refine TL.cons (TO.val rfl rfl rfl (Val.assign rfl) ?_)
 refine TL.cons (TO.val rfl rfl rfl (Val.assign rfl) ?_)
 refine TL.nil ?_
 refine TQ.then_ ?_
 refine TC.seq ?_
 refine TC.region ?_
 refine TL.cons (TO.val rfl rfl rfl (Val.fieldAddrB Try.underlying30 rfl fsz3 rfl rfl rfl) ?_)
 refine TL.cons (TO.val rfl rfl rfl (Val.loadB 2 agg3 rfl rfl rfl) ?_)
 refine TL.cons (TO.val rfl rfl rfl (Val.fieldAddrB Try.underlying30 rfl fsz3 rfl rfl rfl) ?_)
 refine TL.cons (TO.val rfl rfl rfl (Val.loadB 2 agg3 rfl rfl rfl) ?_)
 refine TL.cons (TO.val rfl rfl rfl (Val.cmp rfl rfl run_eql) ?_)
 refine TL.cons (TO.val rfl rfl rfl (Val.assign rfl) ?_)
 refine TL.nil ?_
 refine TQ.then_ ?_
 refine TC.seq ?_
 refine TC.block ?_
 refine TC.seq ?_
 refine TC.region ?_
 refine TL.cons (TO.val rfl rfl rfl (Val.move rfl) ?_)
 refine TL.cons (TO.val rfl rfl rfl (Val.assign rfl) ?_)
 refine TL.nil ?_
 refine TQ.then_ ?_
 refine TC.cond_b rfl h (fun hc616 h => ?_) (fun hc616 h => ?_)
 ·
  refine TC.seq ?_
  refine TC.region ?_
  refine TL.cons (TO.val rfl rfl rfl (Val.loadsB 2 (cs := [.int .i64 a1.f0, .int .i64 a1.f1, .int .i64 a1.f2, .int .i64 a1.f3, .int .i64 a1.f4, .slice A2 a1.f5.length c3]) agg30 fsz30 rfl rfl rfl rfl) ?_)
  refine TL.cons (TO.val rfl rfl rfl (Val.move rfl) ?_)
  obtain ⟨y617, hy618, h⟩ := bind_no h
  refine TL.cons (TL.callV (Lin := []) (args := [.agg #[.int .i64 a1.f0, .int .i64 a1.f1, .int .i64 a1.f2, .int .i64 a1.f3, .int .i64 a1.f4, .slice A2 a1.f5.length c3], .int .i64 y8.1]) rfl rfl rfl hbd77 rfl rfl (fold_constant.calls (a0 := a1) (a1 := y8.1) hr4 hl5 hy618) rfl ?_)
  rintro _ _ _ _ ⟨rfl, A619, c620, rfl, rfl⟩
  refine TL.cons (TL.store 2 (ds := [.int .i64 y617.f0, .int .i64 y617.f1, .int .i64 y617.f2, .int .i64 y617.f3, .int .i64 y617.f4, .slice A619 y617.f5.length c620]) (cs' := [.int .i64 y617.f0, .int .i64 y617.f1, .int .i64 y617.f2, .int .i64 y617.f3, .int .i64 y617.f4, .slice A619 y617.f5.length c620]) (L' := (Row (Kd.int .i64) 3 (.slice A619 y617.f5.length c620) y617.f5 :: Mp Try.prog 3 3 b1 a0_0 :: Blk b7 [.int .i64 y617.f0, .int .i64 y617.f1, .int .i64 y617.f2, .int .i64 y617.f3, .int .i64 y617.f4, .slice A619 y617.f5.length c620] 30 :: Blk b6 [.int .i64 a1.f0, .int .i64 a1.f1, .int .i64 a1.f2, .int .i64 a1.f3, .int .i64 a1.f4, .slice A2 a1.f5.length c3] 30 :: L)) rfl fsz30 rfl rfl rfl rfl rfl (Nat.le_of_ble_eq_true rfl) rfl rfl ?_)
  refine TL.nil ?_
  refine TQ.then_ ?_
  refine TC.ret ?_
  refine TQ.inBR ?_
  refine TQ.thenR ?_
  refine TQ.share (fun G622 e623 hs624 _ => ?_)
  have rd625 : Rd G622 (Kd.int .i64) A619 y617.f5 := Rd.row hs624
  have le626 : y617.f5.length ≤ c620 := Row.le hs624
  obtain rfl := Option.some.inj h
  exact TQ.fin (.inl rfl) rfl Try.results78 (.cells 1 rfl rfl agg30 fsz30 .nil) rfl (FRel.mk (Ls := [Mp Try.prog 3 3 b1 a0_0]) [0] 3 e623 rfl rfl rfl ⟨A619, c620, rfl, rfl, rd625, le626⟩)
 ·
  refine TC.seq ?_
  refine TC.region ?_
  refine TL.cons (TO.val rfl rfl rfl (Val.move rfl) ?_)
  refine TL.cons (TO.val rfl rfl rfl (Val.fieldAddrB Try.underlying30 rfl fsz3 rfl rfl rfl) ?_)
  refine TL.cons (TO.val rfl rfl rfl (Val.loadB 2 agg3 rfl rfl rfl) ?_)
  refine TL.cons (TO.val rfl rfl rfl (Val.fieldAddrB Try.underlying30 rfl fsz3 rfl rfl rfl) ?_)
  refine TL.cons (TO.val rfl rfl rfl (Val.loadB 2 agg3 rfl rfl rfl) ?_)
  obtain ⟨y627, hy628, h⟩ := bind_no h
  refine TL.cons (TL.callV (Lin := [Mp Try.prog 3 3 b1 a0_0]) (args := [.map (some b1), .int .i64 a1.f4, .int .i64 a1.f3]) rfl rfl rfl hbd91 rfl rfl (fold_numbers_neutral.calls (a0_0 := a0_0) (a1 := a1.f4) (a2 := a1.f3) hy628) rfl ?_)
  rintro _ _ _ _ ⟨rfl, rfl, rfl⟩
  refine TL.cons (TO.val rfl rfl rfl (Val.assign rfl) ?_)
  refine TL.nil ?_
  refine TQ.then_ ?_
  refine TC.cond_b rfl h (fun hc735 h => ?_) (fun hc735 h => ?_)
  ·
   refine TC.seq ?_
   refine TC.region ?_
   refine TL.cons (TO.val rfl rfl rfl (Val.loadsB 2 (cs := [.int .i64 a1.f0, .int .i64 a1.f1, .int .i64 a1.f2, .int .i64 a1.f3, .int .i64 a1.f4, .slice A2 a1.f5.length c3]) agg30 fsz30 rfl rfl rfl rfl) ?_)
   refine TL.cons (TO.val rfl rfl rfl (Val.fieldAddrB Try.underlying30 rfl fsz3 rfl rfl rfl) ?_)
   refine TL.cons (TO.val rfl rfl rfl (Val.loadB 2 agg3 rfl rfl rfl) ?_)
   obtain ⟨y736, hy737, h⟩ := bind_no h
   refine TL.cons (TL.callV (Lin := []) (args := [.agg #[.int .i64 a1.f0, .int .i64 a1.f1, .int .i64 a1.f2, .int .i64 a1.f3, .int .i64 a1.f4, .slice A2 a1.f5.length c3], .int .i64 a1.f2]) rfl rfl rfl hbd92 rfl rfl (fold_move.calls (a0 := a1) (a1 := a1.f2) hr4 hl5 hy737) rfl ?_)
   rintro _ _ _ _ ⟨rfl, A738, c739, rfl, rfl⟩
   refine TL.cons (TL.store 2 (ds := [.int .i64 y736.f0, .int .i64 y736.f1, .int .i64 y736.f2, .int .i64 y736.f3, .int .i64 y736.f4, .slice A738 y736.f5.length c739]) (cs' := [.int .i64 y736.f0, .int .i64 y736.f1, .int .i64 y736.f2, .int .i64 y736.f3, .int .i64 y736.f4, .slice A738 y736.f5.length c739]) (L' := (Row (Kd.int .i64) 3 (.slice A738 y736.f5.length c739) y736.f5 :: Mp Try.prog 3 3 b1 a0_0 :: Blk b7 [.int .i64 y736.f0, .int .i64 y736.f1, .int .i64 y736.f2, .int .i64 y736.f3, .int .i64 y736.f4, .slice A738 y736.f5.length c739] 30 :: Blk b6 [.int .i64 a1.f0, .int .i64 a1.f1, .int .i64 a1.f2, .int .i64 a1.f3, .int .i64 a1.f4, .slice A2 a1.f5.length c3] 30 :: L)) rfl fsz30 rfl rfl rfl rfl rfl (Nat.le_of_ble_eq_true rfl) rfl rfl ?_)
   refine TL.nil ?_
   refine TQ.then_ ?_
   refine TC.ret ?_
   refine TQ.inBR ?_
   refine TQ.thenR ?_
   refine TQ.share (fun G741 e742 hs743 _ => ?_)
   have rd744 : Rd G741 (Kd.int .i64) A738 y736.f5 := Rd.row hs743
   have le745 : y736.f5.length ≤ c739 := Row.le hs743
   obtain rfl := Option.some.inj h
   exact TQ.fin (.inl rfl) rfl Try.results78 (.cells 1 rfl rfl agg30 fsz30 .nil) rfl (FRel.mk (Ls := [Mp Try.prog 3 3 b1 a0_0]) [0] 3 e742 rfl rfl rfl ⟨A738, c739, rfl, rfl, rd744, le745⟩)
  ·
   refine TC.seq ?_
   obtain ⟨j752, hj752, h⟩ := jn_no h
   refine TC.tail (fun a W => ∃ (x751 : Bool), j752 x751 = some r ∧ Fr 113 a [(0, .map (some b1)), (3, .pointer (some ⟨b6, 0, none⟩)), (4, .pointer (some ⟨b7, 0, none⟩)), (9, .int .i64 y12.1), (10, .bool y12.2), (11, .bool (decide (a1.f2 = a1.f3))), (51, .bool x751)] ∧ Own G (Mp Try.prog 3 3 b1 a0_0 :: Blk b6 [.int .i64 a1.f0, .int .i64 a1.f1, .int .i64 a1.f2, .int .i64 a1.f3, .int .i64 a1.f4, .slice A2 a1.f5.length c3] 30 :: Blk b7 [.int .i64 0, .int .i64 0, .int .i64 0, .int .i64 0, .int .i64 0, .slice none 0 0] 30 :: L) W) ?_ ?_
   ·
    rintro a W ⟨x751, h, hF, hO⟩
    rw [hj752] at h
    refine TQ.use ?_ hF hO
    clear hF hO
    refine TQ.then_ ?_
    refine TC.cond_b rfl h (fun hc841 h => ?_) (fun hc841 h => ?_)
    ·
     refine TC.seq ?_
     refine TC.region ?_
     refine TL.cons (TO.val rfl rfl rfl (Val.loadsB 1 (cs := [.int .i64 a1.f0, .int .i64 a1.f1, .int .i64 a1.f2, .int .i64 a1.f3, .int .i64 a1.f4, .slice A2 a1.f5.length c3]) agg30 fsz30 rfl rfl rfl rfl) ?_)
     refine TL.cons (TO.val rfl rfl rfl (Val.fieldAddrB Try.underlying30 rfl fsz3 rfl rfl rfl) ?_)
     refine TL.cons (TO.val rfl rfl rfl (Val.loadB 1 agg3 rfl rfl rfl) ?_)
     obtain ⟨y842, hy843, h⟩ := bind_no h
     refine TL.cons (TL.callV (Lin := []) (args := [.agg #[.int .i64 a1.f0, .int .i64 a1.f1, .int .i64 a1.f2, .int .i64 a1.f3, .int .i64 a1.f4, .slice A2 a1.f5.length c3], .int .i64 a1.f3]) rfl rfl rfl hbd92 rfl rfl (fold_move.calls (a0 := a1) (a1 := a1.f3) hr4 hl5 hy843) rfl ?_)
     rintro _ _ _ _ ⟨rfl, A844, c845, rfl, rfl⟩
     refine TL.cons (TL.store 3 (ds := [.int .i64 y842.f0, .int .i64 y842.f1, .int .i64 y842.f2, .int .i64 y842.f3, .int .i64 y842.f4, .slice A844 y842.f5.length c845]) (cs' := [.int .i64 y842.f0, .int .i64 y842.f1, .int .i64 y842.f2, .int .i64 y842.f3, .int .i64 y842.f4, .slice A844 y842.f5.length c845]) (L' := (Row (Kd.int .i64) 3 (.slice A844 y842.f5.length c845) y842.f5 :: Mp Try.prog 3 3 b1 a0_0 :: Blk b6 [.int .i64 a1.f0, .int .i64 a1.f1, .int .i64 a1.f2, .int .i64 a1.f3, .int .i64 a1.f4, .slice A2 a1.f5.length c3] 30 :: Blk b7 [.int .i64 y842.f0, .int .i64 y842.f1, .int .i64 y842.f2, .int .i64 y842.f3, .int .i64 y842.f4, .slice A844 y842.f5.length c845] 30 :: L)) rfl fsz30 rfl rfl rfl rfl rfl (Nat.le_of_ble_eq_true rfl) rfl rfl ?_)
     refine TL.nil ?_
     refine TQ.then_ ?_
     refine TC.ret ?_
     refine TQ.inBR ?_
     refine TQ.thenR ?_
     refine TQ.share (fun G847 e848 hs849 _ => ?_)
     have rd850 : Rd G847 (Kd.int .i64) A844 y842.f5 := Rd.row hs849
     have le851 : y842.f5.length ≤ c845 := Row.le hs849
     obtain rfl := Option.some.inj h
     exact TQ.fin (.inl rfl) rfl Try.results78 (.cells 2 rfl rfl agg30 fsz30 .nil) rfl (FRel.mk (Ls := [Mp Try.prog 3 3 b1 a0_0]) [0] 3 e848 rfl rfl rfl ⟨A844, c845, rfl, rfl, rd850, le851⟩)
    ·
     refine TC.seq ?_
     obtain ⟨j873, hj873, h⟩ := jn_no h
     refine TC.tail (fun a W => ∃ (x872 : Bool), j873 x872 = some r ∧ Fr 113 a [(3, .pointer (some ⟨b6, 0, none⟩)), (4, .pointer (some ⟨b7, 0, none⟩)), (9, .int .i64 y12.1), (10, .bool y12.2), (11, .bool (decide (a1.f2 = a1.f3))), (65, .bool x872)] ∧ Own G (Mp Try.prog 3 3 b1 a0_0 :: Blk b6 [.int .i64 a1.f0, .int .i64 a1.f1, .int .i64 a1.f2, .int .i64 a1.f3, .int .i64 a1.f4, .slice A2 a1.f5.length c3] 30 :: Blk b7 [.int .i64 0, .int .i64 0, .int .i64 0, .int .i64 0, .int .i64 0, .slice none 0 0] 30 :: L) W) ?_ ?_
     ·
      rintro a W ⟨x872, h, hF, hO⟩
      rw [hj873] at h
      refine TQ.use ?_ hF hO
      clear hF hO
      refine TQ.then_ ?_
      refine TC.cond_b rfl h (fun hc914 h => ?_) (fun hc914 h => ?_)
      ·
       refine TC.seq ?_
       refine TC.region ?_
       refine TL.cons (TO.val rfl rfl rfl (Val.loadsB 1 (cs := [.int .i64 a1.f0, .int .i64 a1.f1, .int .i64 a1.f2, .int .i64 a1.f3, .int .i64 a1.f4, .slice A2 a1.f5.length c3]) agg30 fsz30 rfl rfl rfl rfl) ?_)
       obtain ⟨y915, hy916, h⟩ := bind_no h
       refine TL.cons (TL.callV (Lin := []) (args := [.agg #[.int .i64 a1.f0, .int .i64 a1.f1, .int .i64 a1.f2, .int .i64 a1.f3, .int .i64 a1.f4, .slice A2 a1.f5.length c3], .int .i64 0]) rfl rfl rfl hbd77 rfl rfl (fold_constant.calls (a0 := a1) (a1 := 0) hr4 hl5 hy916) rfl ?_)
       rintro _ _ _ _ ⟨rfl, A917, c918, rfl, rfl⟩
       refine TL.cons (TL.store 3 (ds := [.int .i64 y915.f0, .int .i64 y915.f1, .int .i64 y915.f2, .int .i64 y915.f3, .int .i64 y915.f4, .slice A917 y915.f5.length c918]) (cs' := [.int .i64 y915.f0, .int .i64 y915.f1, .int .i64 y915.f2, .int .i64 y915.f3, .int .i64 y915.f4, .slice A917 y915.f5.length c918]) (L' := (Row (Kd.int .i64) 3 (.slice A917 y915.f5.length c918) y915.f5 :: Mp Try.prog 3 3 b1 a0_0 :: Blk b6 [.int .i64 a1.f0, .int .i64 a1.f1, .int .i64 a1.f2, .int .i64 a1.f3, .int .i64 a1.f4, .slice A2 a1.f5.length c3] 30 :: Blk b7 [.int .i64 y915.f0, .int .i64 y915.f1, .int .i64 y915.f2, .int .i64 y915.f3, .int .i64 y915.f4, .slice A917 y915.f5.length c918] 30 :: L)) rfl fsz30 rfl rfl rfl rfl rfl (Nat.le_of_ble_eq_true rfl) rfl rfl ?_)
       refine TL.nil ?_
       refine TQ.then_ ?_
       refine TC.ret ?_
       refine TQ.inBR ?_
       refine TQ.thenR ?_
       refine TQ.share (fun G920 e921 hs922 _ => ?_)
       have rd923 : Rd G920 (Kd.int .i64) A917 y915.f5 := Rd.row hs922
       have le924 : y915.f5.length ≤ c918 := Row.le hs922
       obtain rfl := Option.some.inj h
       exact TQ.fin (.inl rfl) rfl Try.results78 (.cells 2 rfl rfl agg30 fsz30 .nil) rfl (FRel.mk (Ls := [Mp Try.prog 3 3 b1 a0_0]) [0] 3 e921 rfl rfl rfl ⟨A917, c918, rfl, rfl, rd923, le924⟩)
      ·
       refine TC.seq ?_
       obtain ⟨j932, hj932, h⟩ := jn_no h
       refine TC.tail (fun a W => ∃ (x931 : Bool), j932 x931 = some r ∧ Fr 113 a [(3, .pointer (some ⟨b6, 0, none⟩)), (4, .pointer (some ⟨b7, 0, none⟩)), (9, .int .i64 y12.1), (10, .bool y12.2), (11, .bool (decide (a1.f2 = a1.f3))), (88, .bool x931)] ∧ Own G (Mp Try.prog 3 3 b1 a0_0 :: Blk b6 [.int .i64 a1.f0, .int .i64 a1.f1, .int .i64 a1.f2, .int .i64 a1.f3, .int .i64 a1.f4, .slice A2 a1.f5.length c3] 30 :: Blk b7 [.int .i64 0, .int .i64 0, .int .i64 0, .int .i64 0, .int .i64 0, .slice none 0 0] 30 :: L) W) ?_ ?_
       ·
        rintro a W ⟨x931, h, hF, hO⟩
        rw [hj932] at h
        refine TQ.use ?_ hF hO
        clear hF hO
        refine TQ.then_ ?_
        refine TC.cond_b rfl h (fun hc953 h => ?_) (fun hc953 h => ?_)
        ·
         refine TC.seq ?_
         refine TC.region ?_
         refine TL.cons (TO.val rfl rfl rfl (Val.loadsB 1 (cs := [.int .i64 a1.f0, .int .i64 a1.f1, .int .i64 a1.f2, .int .i64 a1.f3, .int .i64 a1.f4, .slice A2 a1.f5.length c3]) agg30 fsz30 rfl rfl rfl rfl) ?_)
         refine TL.cons (TO.val rfl rfl rfl (Val.fieldAddrB Try.underlying30 rfl fsz3 rfl rfl rfl) ?_)
         refine TL.cons (TO.val rfl rfl rfl (Val.loadB 1 agg3 rfl rfl rfl) ?_)
         obtain ⟨y954, hy955, h⟩ := bind_no h
         refine TL.cons (TL.callV (Lin := []) (args := [.agg #[.int .i64 a1.f0, .int .i64 a1.f1, .int .i64 a1.f2, .int .i64 a1.f3, .int .i64 a1.f4, .slice A2 a1.f5.length c3], .int .i64 a1.f2]) rfl rfl rfl hbd92 rfl rfl (fold_move.calls (a0 := a1) (a1 := a1.f2) hr4 hl5 hy955) rfl ?_)
         rintro _ _ _ _ ⟨rfl, A956, c957, rfl, rfl⟩
         refine TL.cons (TL.store 3 (ds := [.int .i64 y954.f0, .int .i64 y954.f1, .int .i64 y954.f2, .int .i64 y954.f3, .int .i64 y954.f4, .slice A956 y954.f5.length c957]) (cs' := [.int .i64 y954.f0, .int .i64 y954.f1, .int .i64 y954.f2, .int .i64 y954.f3, .int .i64 y954.f4, .slice A956 y954.f5.length c957]) (L' := (Row (Kd.int .i64) 3 (.slice A956 y954.f5.length c957) y954.f5 :: Mp Try.prog 3 3 b1 a0_0 :: Blk b6 [.int .i64 a1.f0, .int .i64 a1.f1, .int .i64 a1.f2, .int .i64 a1.f3, .int .i64 a1.f4, .slice A2 a1.f5.length c3] 30 :: Blk b7 [.int .i64 y954.f0, .int .i64 y954.f1, .int .i64 y954.f2, .int .i64 y954.f3, .int .i64 y954.f4, .slice A956 y954.f5.length c957] 30 :: L)) rfl fsz30 rfl rfl rfl rfl rfl (Nat.le_of_ble_eq_true rfl) rfl rfl ?_)
         refine TL.nil ?_
         refine TQ.then_ ?_
         refine TC.ret ?_
         refine TQ.inBR ?_
         refine TQ.thenR ?_
         refine TQ.share (fun G959 e960 hs961 _ => ?_)
         have rd962 : Rd G959 (Kd.int .i64) A956 y954.f5 := Rd.row hs961
         have le963 : y954.f5.length ≤ c957 := Row.le hs961
         obtain rfl := Option.some.inj h
         exact TQ.fin (.inl rfl) rfl Try.results78 (.cells 2 rfl rfl agg30 fsz30 .nil) rfl (FRel.mk (Ls := [Mp Try.prog 3 3 b1 a0_0]) [0] 3 e960 rfl rfl rfl ⟨A956, c957, rfl, rfl, rd962, le963⟩)
        ·
         refine TC.seq ?_
         obtain ⟨j968, hj968, h⟩ := jn_no h
         refine TC.tail (fun a W => ∃ (x967 : Bool), j968 x967 = some r ∧ Fr 113 a [(3, .pointer (some ⟨b6, 0, none⟩)), (4, .pointer (some ⟨b7, 0, none⟩)), (9, .int .i64 y12.1), (104, .bool x967)] ∧ Own G (Mp Try.prog 3 3 b1 a0_0 :: Blk b6 [.int .i64 a1.f0, .int .i64 a1.f1, .int .i64 a1.f2, .int .i64 a1.f3, .int .i64 a1.f4, .slice A2 a1.f5.length c3] 30 :: Blk b7 [.int .i64 0, .int .i64 0, .int .i64 0, .int .i64 0, .int .i64 0, .slice none 0 0] 30 :: L) W) ?_ ?_
         ·
          rintro a W ⟨x967, h, hF, hO⟩
          rw [hj968] at h
          refine TQ.use ?_ hF hO
          clear hF hO
          refine TQ.then_ ?_
          refine TC.cond_b rfl h (fun hc975 h => ?_) (fun hc975 h => ?_)
          ·
           refine TC.seq ?_
           refine TC.region ?_
           refine TL.cons (TO.val rfl rfl rfl (Val.loadsB 1 (cs := [.int .i64 a1.f0, .int .i64 a1.f1, .int .i64 a1.f2, .int .i64 a1.f3, .int .i64 a1.f4, .slice A2 a1.f5.length c3]) agg30 fsz30 rfl rfl rfl rfl) ?_)
           refine TL.cons (TO.val rfl rfl rfl (Val.move rfl) ?_)
           obtain ⟨y976, hy977, h⟩ := bind_no h
           refine TL.cons (TL.callV (Lin := []) (args := [.agg #[.int .i64 a1.f0, .int .i64 a1.f1, .int .i64 a1.f2, .int .i64 a1.f3, .int .i64 a1.f4, .slice A2 a1.f5.length c3], .int .i64 y12.1]) rfl rfl rfl hbd77 rfl rfl (fold_constant.calls (a0 := a1) (a1 := y12.1) hr4 hl5 hy977) rfl ?_)
           rintro _ _ _ _ ⟨rfl, A978, c979, rfl, rfl⟩
           refine TL.cons (TL.store 3 (ds := [.int .i64 y976.f0, .int .i64 y976.f1, .int .i64 y976.f2, .int .i64 y976.f3, .int .i64 y976.f4, .slice A978 y976.f5.length c979]) (cs' := [.int .i64 y976.f0, .int .i64 y976.f1, .int .i64 y976.f2, .int .i64 y976.f3, .int .i64 y976.f4, .slice A978 y976.f5.length c979]) (L' := (Row (Kd.int .i64) 3 (.slice A978 y976.f5.length c979) y976.f5 :: Mp Try.prog 3 3 b1 a0_0 :: Blk b6 [.int .i64 a1.f0, .int .i64 a1.f1, .int .i64 a1.f2, .int .i64 a1.f3, .int .i64 a1.f4, .slice A2 a1.f5.length c3] 30 :: Blk b7 [.int .i64 y976.f0, .int .i64 y976.f1, .int .i64 y976.f2, .int .i64 y976.f3, .int .i64 y976.f4, .slice A978 y976.f5.length c979] 30 :: L)) rfl fsz30 rfl rfl rfl rfl rfl (Nat.le_of_ble_eq_true rfl) rfl rfl ?_)
           refine TL.nil ?_
           refine TQ.then_ ?_
           refine TC.ret ?_
           refine TQ.inBR ?_
           refine TQ.thenR ?_
           refine TQ.share (fun G981 e982 hs983 _ => ?_)
           have rd984 : Rd G981 (Kd.int .i64) A978 y976.f5 := Rd.row hs983
           have le985 : y976.f5.length ≤ c979 := Row.le hs983
           obtain rfl := Option.some.inj h
           exact TQ.fin (.inl rfl) rfl Try.results78 (.cells 2 rfl rfl agg30 fsz30 .nil) rfl (FRel.mk (Ls := [Mp Try.prog 3 3 b1 a0_0]) [0] 3 e982 rfl rfl rfl ⟨A978, c979, rfl, rfl, rd984, le985⟩)
          ·
           refine TC.skip ?_
           refine TQ.inB ?_
           refine TQ.then_ ?_
           refine TC.seq ?_
           refine TC.region ?_
           refine TL.cons (TO.val rfl rfl rfl (Val.loadsB 1 (cs := [.int .i64 a1.f0, .int .i64 a1.f1, .int .i64 a1.f2, .int .i64 a1.f3, .int .i64 a1.f4, .slice A2 a1.f5.length c3]) agg30 fsz30 rfl rfl rfl rfl) ?_)
           refine TL.cons (TL.store 2 (ds := [.int .i64 a1.f0, .int .i64 a1.f1, .int .i64 a1.f2, .int .i64 a1.f3, .int .i64 a1.f4, .slice A2 a1.f5.length c3]) (cs' := [.int .i64 a1.f0, .int .i64 a1.f1, .int .i64 a1.f2, .int .i64 a1.f3, .int .i64 a1.f4, .slice A2 a1.f5.length c3]) (L' := (Mp Try.prog 3 3 b1 a0_0 :: Blk b6 [.int .i64 a1.f0, .int .i64 a1.f1, .int .i64 a1.f2, .int .i64 a1.f3, .int .i64 a1.f4, .slice A2 a1.f5.length c3] 30 :: Blk b7 [.int .i64 a1.f0, .int .i64 a1.f1, .int .i64 a1.f2, .int .i64 a1.f3, .int .i64 a1.f4, .slice A2 a1.f5.length c3] 30 :: L)) rfl fsz30 rfl rfl rfl rfl rfl (Nat.le_of_ble_eq_true rfl) rfl rfl ?_)
           refine TL.nil ?_
           refine TQ.then_ ?_
           refine TC.ret ?_
           obtain rfl := Option.some.inj h
           exact TQ.fin (.inl rfl) rfl Try.results78 (.cells 2 rfl rfl agg30 fsz30 .nil) rfl (FRel.mk (Ls := [Mp Try.prog 3 3 b1 a0_0]) [0] 3 (Gd.le.refl _) rfl rfl rfl ⟨A2, c3, rfl, rfl, hr4, hl5⟩)
         ·
          refine TC.region ?_
          refine TL.cons (TO.val rfl rfl rfl (Val.move rfl) ?_)
          refine TL.cons (TO.val rfl rfl rfl (Val.move rfl) ?_)
          refine TK.split (p := a1.f2 = a1.f3) h (fun hg986 h => ?_) (fun hg986 h => ?_)
          ·
           have hk987 : decide (a1.f2 = a1.f3) = true := decide_eq_true hg986
           refine TL.cons (TO.val (Wt.yes rfl rfl rfl hk987) rfl rfl (Val.move rfl) ?_)
           refine TL.cons (TO.val rfl rfl rfl (Val.pickY rfl hk987 rfl) ?_)
           refine TL.cons (TO.val rfl rfl rfl (Val.assign rfl) ?_)
           refine TL.nil ?_
           exact fun a W hF hO => ⟨y12.2, h, hF.sub ⟨rfl, rfl, rfl, rfl, trivial⟩, hO.selT (Ls := [Mp Try.prog 3 3 b1 a0_0, Blk b6 [.int .i64 a1.f0, .int .i64 a1.f1, .int .i64 a1.f2, .int .i64 a1.f3, .int .i64 a1.f4, .slice A2 a1.f5.length c3] 30, Blk b7 [.int .i64 0, .int .i64 0, .int .i64 0, .int .i64 0, .int .i64 0, .slice none 0 0] 30]) [0, 1, 2] 3 rfl rfl rfl⟩
          ·
           have hk988 : decide (a1.f2 = a1.f3) = false := decide_eq_false hg986
           refine TL.cons (TL.not (Wt.no rfl rfl rfl hk988) rfl ?_)
           refine TL.cons (TO.val rfl rfl rfl (Val.pickN rfl hk988 rfl) ?_)
           refine TL.cons (TO.val rfl rfl rfl (Val.assign rfl) ?_)
           refine TL.nil ?_
           exact fun a W hF hO => ⟨false, h, hF.sub ⟨rfl, rfl, rfl, rfl, trivial⟩, hO.selT (Ls := [Mp Try.prog 3 3 b1 a0_0, Blk b6 [.int .i64 a1.f0, .int .i64 a1.f1, .int .i64 a1.f2, .int .i64 a1.f3, .int .i64 a1.f4, .slice A2 a1.f5.length c3] 30, Blk b7 [.int .i64 0, .int .i64 0, .int .i64 0, .int .i64 0, .int .i64 0, .slice none 0 0] 30]) [0, 1, 2] 3 rfl rfl rfl⟩
       ·
        refine TC.region ?_
        refine TL.cons (TO.val rfl rfl rfl (Val.move rfl) ?_)
        refine TL.cons (TO.val rfl rfl rfl (Val.move rfl) ?_)
        refine TK.split (p := a1.f2 = a1.f3) h (fun hg989 h => ?_) (fun hg989 h => ?_)
        ·
         have hk990 : decide (a1.f2 = a1.f3) = true := decide_eq_true hg989
         refine TL.cons (TO.val (Wt.yes rfl rfl rfl hk990) rfl rfl (Val.fieldAddrB Try.underlying30 rfl fsz3 rfl rfl rfl) ?_)
         refine TL.cons (TO.val (Wt.yes rfl rfl rfl hk990) rfl rfl (Val.loadB 1 agg3 rfl rfl rfl) ?_)
         refine TL.cons (TO.val (Wt.yes rfl rfl rfl hk990) rfl rfl (Val.cmp rfl rfl run_eql) ?_)
         refine TL.cons (TO.val (Wt.yes rfl rfl rfl hk990) rfl rfl (Val.move rfl) ?_)
         refine TK.split (p := a1.f4 = 6) h (fun hg991 h => ?_) (fun hg991 h => ?_)
         ·
          have hk992 : decide (a1.f4 = 6) = true := decide_eq_true hg991
          refine TL.cons (TL.not (Wt.no rfl rfl rfl hk992) rfl ?_)
          refine TL.cons (TL.not (Wt.no rfl rfl rfl hk992) rfl ?_)
          refine TL.cons (TL.not (Wt.no rfl rfl rfl hk992) rfl ?_)
          refine TL.cons (TO.val (Wt.yes rfl rfl rfl hk990) rfl rfl (Val.pickY rfl hk992 rfl) ?_)
          refine TL.cons (TO.val rfl rfl rfl (Val.pickY rfl hk990 rfl) ?_)
          refine TL.cons (TO.val rfl rfl rfl (Val.assign rfl) ?_)
          refine TL.nil ?_
          exact fun a W hF hO => ⟨true, h, hF.sub ⟨rfl, rfl, rfl, rfl, rfl, rfl, trivial⟩, hO.selT (Ls := [Mp Try.prog 3 3 b1 a0_0, Blk b6 [.int .i64 a1.f0, .int .i64 a1.f1, .int .i64 a1.f2, .int .i64 a1.f3, .int .i64 a1.f4, .slice A2 a1.f5.length c3] 30, Blk b7 [.int .i64 0, .int .i64 0, .int .i64 0, .int .i64 0, .int .i64 0, .slice none 0 0] 30]) [0, 1, 2] 3 rfl rfl rfl⟩
         ·
          have hk993 : decide (a1.f4 = 6) = false := decide_eq_false hg991
          refine TL.cons (TO.val (Wt.yes rfl rfl rfl hk993) rfl rfl (Val.fieldAddrB Try.underlying30 rfl fsz3 rfl rfl rfl) ?_)
          refine TL.cons (TO.val (Wt.yes rfl rfl rfl hk993) rfl rfl (Val.loadB 1 agg3 rfl rfl rfl) ?_)
          refine TL.cons (TO.val (Wt.yes rfl rfl rfl hk993) rfl rfl (Val.cmp rfl rfl run_eql) ?_)
          refine TL.cons (TO.val (Wt.yes rfl rfl rfl hk990) rfl rfl (Val.pickN rfl hk993 rfl) ?_)
          refine TL.cons (TO.val rfl rfl rfl (Val.pickY rfl hk990 rfl) ?_)
          refine TL.cons (TO.val rfl rfl rfl (Val.assign rfl) ?_)
          refine TL.nil ?_
          exact fun a W hF hO => ⟨decide (a1.f4 = 7), h, hF.sub ⟨rfl, rfl, rfl, rfl, rfl, rfl, trivial⟩, hO.selT (Ls := [Mp Try.prog 3 3 b1 a0_0, Blk b6 [.int .i64 a1.f0, .int .i64 a1.f1, .int .i64 a1.f2, .int .i64 a1.f3, .int .i64 a1.f4, .slice A2 a1.f5.length c3] 30, Blk b7 [.int .i64 0, .int .i64 0, .int .i64 0, .int .i64 0, .int .i64 0, .slice none 0 0] 30]) [0, 1, 2] 3 rfl rfl rfl⟩
        ·
         have hk994 : decide (a1.f2 = a1.f3) = false := decide_eq_false hg989
         refine TL.cons (TL.not (Wt.no rfl rfl rfl hk994) rfl ?_)
         refine TL.cons (TL.not (Wt.no rfl rfl rfl hk994) rfl ?_)
         refine TL.cons (TL.not (Wt.no rfl rfl rfl hk994) rfl ?_)
         refine TL.cons (TL.not (Wt.no rfl rfl rfl hk994) rfl ?_)
         refine TL.cons (TL.not rfl rfl ?_)
         refine TL.cons (TL.not rfl rfl ?_)
         refine TL.cons (TL.not rfl rfl ?_)
         refine TL.cons (TL.not (Wt.no rfl rfl rfl hk994) rfl ?_)
         refine TL.cons (TO.val rfl rfl rfl (Val.pickN rfl hk994 rfl) ?_)
         refine TL.cons (TO.val rfl rfl rfl (Val.assign rfl) ?_)
         refine TL.nil ?_
         exact fun a W hF hO => ⟨false, h, hF.sub ⟨rfl, rfl, rfl, rfl, rfl, rfl, trivial⟩, hO.selT (Ls := [Mp Try.prog 3 3 b1 a0_0, Blk b6 [.int .i64 a1.f0, .int .i64 a1.f1, .int .i64 a1.f2, .int .i64 a1.f3, .int .i64 a1.f4, .slice A2 a1.f5.length c3] 30, Blk b7 [.int .i64 0, .int .i64 0, .int .i64 0, .int .i64 0, .int .i64 0, .slice none 0 0] 30]) [0, 1, 2] 3 rfl rfl rfl⟩
     ·
      refine TC.region ?_
      refine TL.cons (TO.val rfl rfl rfl (Val.fieldAddrB Try.underlying30 rfl fsz3 rfl rfl rfl) ?_)
      refine TL.cons (TO.val rfl rfl rfl (Val.loadB 1 agg3 rfl rfl rfl) ?_)
      refine TL.cons (TO.val rfl rfl rfl (Val.cmp rfl rfl run_eql) ?_)
      refine TL.cons (TO.val rfl rfl rfl (Val.move rfl) ?_)
      refine TK.split (p := a1.f4 = 3) h (fun hg995 h => ?_) (fun hg995 h => ?_)
      ·
       have hk996 : decide (a1.f4 = 3) = true := decide_eq_true hg995
       refine TL.cons (TL.not (Wt.no rfl rfl rfl hk996) rfl ?_)
       refine TL.cons (TL.not (Wt.no rfl rfl rfl hk996) rfl ?_)
       refine TL.cons (TL.not (Wt.no rfl rfl rfl hk996) rfl ?_)
       refine TL.cons (TO.val rfl rfl rfl (Val.pickY rfl hk996 rfl) ?_)
       refine TL.cons (TO.val rfl rfl rfl (Val.move rfl) ?_)
       refine TL.cons (TO.val (Wt.yes rfl rfl rfl rfl) rfl rfl (Val.move rfl) ?_)
       refine TL.cons (TO.val (Wt.yes rfl rfl rfl rfl) rfl rfl (Val.fieldAddrB Try.underlying30 rfl fsz3 rfl rfl rfl) ?_)
       refine TL.cons (TO.val (Wt.yes rfl rfl rfl rfl) rfl rfl (Val.loadB 1 agg3 rfl rfl rfl) ?_)
       obtain ⟨y997, hy998, h⟩ := bind_no h
       refine TL.cons (TL.callV (Lin := [Mp Try.prog 3 3 b1 a0_0]) (args := [.map (some b1), .int .i64 a1.f2]) (Wt.yes rfl rfl rfl rfl) rfl rfl hbd93 rfl rfl (fold_numbers_zero.calls (a0_0 := a0_0) (a1 := a1.f2) hy998) rfl ?_)
       rintro _ _ _ _ ⟨rfl, rfl, rfl⟩
       refine TL.cons (TO.val (Wt.yes rfl rfl rfl rfl) rfl rfl (Val.move rfl) ?_)
       refine TK.split (p := y997 = true) h (fun hg999 h => ?_) (fun hg999 h => ?_)
       ·
        have hk1000 : y997 = true := hg999
        refine TL.cons (TL.not (Wt.no rfl rfl rfl hk1000) rfl ?_)
        refine TL.cons (TL.not (Wt.no rfl rfl rfl hk1000) rfl ?_)
        refine TL.cons (TL.not (Wt.no rfl rfl rfl hk1000) rfl ?_)
        refine TL.cons (TL.not (Wt.no rfl rfl rfl hk1000) rfl ?_)
        refine TL.cons (TO.val (Wt.yes rfl rfl rfl rfl) rfl rfl (Val.pickY rfl hk1000 rfl) ?_)
        refine TL.cons (TO.val rfl rfl rfl (Val.pickY rfl rfl rfl) ?_)
        refine TL.cons (TO.val rfl rfl rfl (Val.assign rfl) ?_)
        refine TL.nil ?_
        exact fun a W hF hO => ⟨true, h, hF.sub ⟨rfl, rfl, rfl, rfl, rfl, rfl, trivial⟩, hO.selT (Ls := [Mp Try.prog 3 3 b1 a0_0, Blk b6 [.int .i64 a1.f0, .int .i64 a1.f1, .int .i64 a1.f2, .int .i64 a1.f3, .int .i64 a1.f4, .slice A2 a1.f5.length c3] 30, Blk b7 [.int .i64 0, .int .i64 0, .int .i64 0, .int .i64 0, .int .i64 0, .slice none 0 0] 30]) [0, 1, 2] 3 rfl rfl rfl⟩
       ·
        have hk1001 : y997 = false := (by simpa using hg999)
        refine TL.cons (TO.val (Wt.yes rfl rfl rfl hk1001) rfl rfl (Val.move rfl) ?_)
        refine TL.cons (TO.val (Wt.yes rfl rfl rfl hk1001) rfl rfl (Val.fieldAddrB Try.underlying30 rfl fsz3 rfl rfl rfl) ?_)
        refine TL.cons (TO.val (Wt.yes rfl rfl rfl hk1001) rfl rfl (Val.loadB 1 agg3 rfl rfl rfl) ?_)
        obtain ⟨y1002, hy1003, h⟩ := bind_no h
        refine TL.cons (TL.callV (Lin := [Mp Try.prog 3 3 b1 a0_0]) (args := [.map (some b1), .int .i64 a1.f3]) (Wt.yes rfl rfl rfl hk1001) rfl rfl hbd93 rfl rfl (fold_numbers_zero.calls (a0_0 := a0_0) (a1 := a1.f3) hy1003) rfl ?_)
        rintro _ _ _ _ ⟨rfl, rfl, rfl⟩
        refine TL.cons (TO.val (Wt.yes rfl rfl rfl rfl) rfl rfl (Val.pickN rfl hk1001 rfl) ?_)
        refine TL.cons (TO.val rfl rfl rfl (Val.pickY rfl rfl rfl) ?_)
        refine TL.cons (TO.val rfl rfl rfl (Val.assign rfl) ?_)
        refine TL.nil ?_
        exact fun a W hF hO => ⟨y1002, h, hF.sub ⟨rfl, rfl, rfl, rfl, rfl, rfl, trivial⟩, hO.selT (Ls := [Mp Try.prog 3 3 b1 a0_0, Blk b6 [.int .i64 a1.f0, .int .i64 a1.f1, .int .i64 a1.f2, .int .i64 a1.f3, .int .i64 a1.f4, .slice A2 a1.f5.length c3] 30, Blk b7 [.int .i64 0, .int .i64 0, .int .i64 0, .int .i64 0, .int .i64 0, .slice none 0 0] 30]) [0, 1, 2] 3 rfl rfl rfl⟩
      ·
       have hk1004 : decide (a1.f4 = 3) = false := decide_eq_false hg995
       refine TL.cons (TO.val (Wt.yes rfl rfl rfl hk1004) rfl rfl (Val.fieldAddrB Try.underlying30 rfl fsz3 rfl rfl rfl) ?_)
       refine TL.cons (TO.val (Wt.yes rfl rfl rfl hk1004) rfl rfl (Val.loadB 1 agg3 rfl rfl rfl) ?_)
       refine TL.cons (TO.val (Wt.yes rfl rfl rfl hk1004) rfl rfl (Val.cmp rfl rfl run_eql) ?_)
       refine TL.cons (TO.val rfl rfl rfl (Val.pickN rfl hk1004 rfl) ?_)
       refine TL.cons (TO.val rfl rfl rfl (Val.move rfl) ?_)
       refine TK.split (p := a1.f4 = 6) h (fun hg1005 h => ?_) (fun hg1005 h => ?_)
       ·
        have hk1006 : decide (a1.f4 = 6) = true := decide_eq_true hg1005
        refine TL.cons (TO.val (Wt.yes rfl rfl rfl hk1006) rfl rfl (Val.move rfl) ?_)
        refine TL.cons (TO.val (Wt.yes rfl rfl rfl hk1006) rfl rfl (Val.fieldAddrB Try.underlying30 rfl fsz3 rfl rfl rfl) ?_)
        refine TL.cons (TO.val (Wt.yes rfl rfl rfl hk1006) rfl rfl (Val.loadB 1 agg3 rfl rfl rfl) ?_)
        obtain ⟨y1007, hy1008, h⟩ := bind_no h
        refine TL.cons (TL.callV (Lin := [Mp Try.prog 3 3 b1 a0_0]) (args := [.map (some b1), .int .i64 a1.f2]) (Wt.yes rfl rfl rfl hk1006) rfl rfl hbd93 rfl rfl (fold_numbers_zero.calls (a0_0 := a0_0) (a1 := a1.f2) hy1008) rfl ?_)
        rintro _ _ _ _ ⟨rfl, rfl, rfl⟩
        refine TL.cons (TO.val (Wt.yes rfl rfl rfl hk1006) rfl rfl (Val.move rfl) ?_)
        refine TK.split (p := y1007 = true) h (fun hg1009 h => ?_) (fun hg1009 h => ?_)
        ·
         have hk1010 : y1007 = true := hg1009
         refine TL.cons (TL.not (Wt.no rfl rfl rfl hk1010) rfl ?_)
         refine TL.cons (TL.not (Wt.no rfl rfl rfl hk1010) rfl ?_)
         refine TL.cons (TL.not (Wt.no rfl rfl rfl hk1010) rfl ?_)
         refine TL.cons (TL.not (Wt.no rfl rfl rfl hk1010) rfl ?_)
         refine TL.cons (TO.val (Wt.yes rfl rfl rfl hk1006) rfl rfl (Val.pickY rfl hk1010 rfl) ?_)
         refine TL.cons (TO.val rfl rfl rfl (Val.pickY rfl hk1006 rfl) ?_)
         refine TL.cons (TO.val rfl rfl rfl (Val.assign rfl) ?_)
         refine TL.nil ?_
         exact fun a W hF hO => ⟨true, h, hF.sub ⟨rfl, rfl, rfl, rfl, rfl, rfl, trivial⟩, hO.selT (Ls := [Mp Try.prog 3 3 b1 a0_0, Blk b6 [.int .i64 a1.f0, .int .i64 a1.f1, .int .i64 a1.f2, .int .i64 a1.f3, .int .i64 a1.f4, .slice A2 a1.f5.length c3] 30, Blk b7 [.int .i64 0, .int .i64 0, .int .i64 0, .int .i64 0, .int .i64 0, .slice none 0 0] 30]) [0, 1, 2] 3 rfl rfl rfl⟩
        ·
         have hk1011 : y1007 = false := (by simpa using hg1009)
         refine TL.cons (TO.val (Wt.yes rfl rfl rfl hk1011) rfl rfl (Val.move rfl) ?_)
         refine TL.cons (TO.val (Wt.yes rfl rfl rfl hk1011) rfl rfl (Val.fieldAddrB Try.underlying30 rfl fsz3 rfl rfl rfl) ?_)
         refine TL.cons (TO.val (Wt.yes rfl rfl rfl hk1011) rfl rfl (Val.loadB 1 agg3 rfl rfl rfl) ?_)
         obtain ⟨y1012, hy1013, h⟩ := bind_no h
         refine TL.cons (TL.callV (Lin := [Mp Try.prog 3 3 b1 a0_0]) (args := [.map (some b1), .int .i64 a1.f3]) (Wt.yes rfl rfl rfl hk1011) rfl rfl hbd93 rfl rfl (fold_numbers_zero.calls (a0_0 := a0_0) (a1 := a1.f3) hy1013) rfl ?_)
         rintro _ _ _ _ ⟨rfl, rfl, rfl⟩
         refine TL.cons (TO.val (Wt.yes rfl rfl rfl hk1006) rfl rfl (Val.pickN rfl hk1011 rfl) ?_)
         refine TL.cons (TO.val rfl rfl rfl (Val.pickY rfl hk1006 rfl) ?_)
         refine TL.cons (TO.val rfl rfl rfl (Val.assign rfl) ?_)
         refine TL.nil ?_
         exact fun a W hF hO => ⟨y1012, h, hF.sub ⟨rfl, rfl, rfl, rfl, rfl, rfl, trivial⟩, hO.selT (Ls := [Mp Try.prog 3 3 b1 a0_0, Blk b6 [.int .i64 a1.f0, .int .i64 a1.f1, .int .i64 a1.f2, .int .i64 a1.f3, .int .i64 a1.f4, .slice A2 a1.f5.length c3] 30, Blk b7 [.int .i64 0, .int .i64 0, .int .i64 0, .int .i64 0, .int .i64 0, .slice none 0 0] 30]) [0, 1, 2] 3 rfl rfl rfl⟩
       ·
        have hk1014 : decide (a1.f4 = 6) = false := decide_eq_false hg1005
        refine TL.cons (TL.not (Wt.no rfl rfl rfl hk1014) rfl ?_)
        refine TL.cons (TL.not (Wt.no rfl rfl rfl hk1014) rfl ?_)
        refine TL.cons (TL.not (Wt.no rfl rfl rfl hk1014) rfl ?_)
        refine TL.cons (TL.not (Wt.no rfl rfl rfl hk1014) rfl ?_)
        refine TL.cons (TL.not (Wt.no rfl rfl rfl hk1014) rfl ?_)
        refine TL.cons (TL.not rfl rfl ?_)
        refine TL.cons (TL.not rfl rfl ?_)
        refine TL.cons (TL.not rfl rfl ?_)
        refine TL.cons (TL.not rfl rfl ?_)
        refine TL.cons (TL.not (Wt.no rfl rfl rfl hk1014) rfl ?_)
        refine TL.cons (TO.val rfl rfl rfl (Val.pickN rfl hk1014 rfl) ?_)
        refine TL.cons (TO.val rfl rfl rfl (Val.assign rfl) ?_)
        refine TL.nil ?_
        exact fun a W hF hO => ⟨false, h, hF.sub ⟨rfl, rfl, rfl, rfl, rfl, rfl, trivial⟩, hO.selT (Ls := [Mp Try.prog 3 3 b1 a0_0, Blk b6 [.int .i64 a1.f0, .int .i64 a1.f1, .int .i64 a1.f2, .int .i64 a1.f3, .int .i64 a1.f4, .slice A2 a1.f5.length c3] 30, Blk b7 [.int .i64 0, .int .i64 0, .int .i64 0, .int .i64 0, .int .i64 0, .slice none 0 0] 30]) [0, 1, 2] 3 rfl rfl rfl⟩
   ·
    refine TC.region ?_
    refine TL.cons (TO.val rfl rfl rfl (Val.move rfl) ?_)
    refine TL.cons (TO.val rfl rfl rfl (Val.move rfl) ?_)
    refine TK.split (p := y10.2 = true) h (fun hg1015 h => ?_) (fun hg1015 h => ?_)
    ·
     have hk1016 : y10.2 = true := hg1015
     refine TL.cons (TO.val (Wt.yes rfl rfl rfl hk1016) rfl rfl (Val.move rfl) ?_)
     refine TL.cons (TO.val (Wt.yes rfl rfl rfl hk1016) rfl rfl (Val.fieldAddrB Try.underlying30 rfl fsz3 rfl rfl rfl) ?_)
     refine TL.cons (TO.val (Wt.yes rfl rfl rfl hk1016) rfl rfl (Val.loadB 2 agg3 rfl rfl rfl) ?_)
     refine TL.cons (TO.val (Wt.yes rfl rfl rfl hk1016) rfl rfl (Val.fieldAddrB Try.underlying30 rfl fsz3 rfl rfl rfl) ?_)
     refine TL.cons (TO.val (Wt.yes rfl rfl rfl hk1016) rfl rfl (Val.loadB 2 agg3 rfl rfl rfl) ?_)
     obtain ⟨y1017, hy1018, h⟩ := bind_no h
     refine TL.cons (TL.callV (Lin := [Mp Try.prog 3 3 b1 a0_0]) (args := [.map (some b1), .int .i64 a1.f4, .int .i64 a1.f2]) (Wt.yes rfl rfl rfl hk1016) rfl rfl hbd91 rfl rfl (fold_numbers_neutral.calls (a0_0 := a0_0) (a1 := a1.f4) (a2 := a1.f2) hy1018) rfl ?_)
     rintro _ _ _ _ ⟨rfl, rfl, rfl⟩
     refine TL.cons (TO.val rfl rfl rfl (Val.pickY rfl hk1016 rfl) ?_)
     refine TL.cons (TO.val rfl rfl rfl (Val.assign rfl) ?_)
     refine TL.nil ?_
     exact fun a W hF hO => ⟨y1017, h, hF.sub ⟨rfl, rfl, rfl, rfl, rfl, rfl, rfl, trivial⟩, hO.selT (Ls := [Mp Try.prog 3 3 b1 a0_0, Blk b6 [.int .i64 a1.f0, .int .i64 a1.f1, .int .i64 a1.f2, .int .i64 a1.f3, .int .i64 a1.f4, .slice A2 a1.f5.length c3] 30, Blk b7 [.int .i64 0, .int .i64 0, .int .i64 0, .int .i64 0, .int .i64 0, .slice none 0 0] 30]) [0, 2, 1] 3 rfl rfl rfl⟩
    ·
     have hk1019 : y10.2 = false := (by simpa using hg1015)
     refine TL.cons (TL.not (Wt.no rfl rfl rfl hk1019) rfl ?_)
     refine TL.cons (TL.not (Wt.no rfl rfl rfl hk1019) rfl ?_)
     refine TL.cons (TL.not (Wt.no rfl rfl rfl hk1019) rfl ?_)
     refine TL.cons (TL.not (Wt.no rfl rfl rfl hk1019) rfl ?_)
     refine TL.cons (TL.not (Wt.no rfl rfl rfl hk1019) rfl ?_)
     refine TL.cons (TL.not (Wt.no rfl rfl rfl hk1019) rfl ?_)
     refine TL.cons (TO.val rfl rfl rfl (Val.pickN rfl hk1019 rfl) ?_)
     refine TL.cons (TO.val rfl rfl rfl (Val.assign rfl) ?_)
     refine TL.nil ?_
     exact fun a W hF hO => ⟨false, h, hF.sub ⟨rfl, rfl, rfl, rfl, rfl, rfl, rfl, trivial⟩, hO.selT (Ls := [Mp Try.prog 3 3 b1 a0_0, Blk b6 [.int .i64 a1.f0, .int .i64 a1.f1, .int .i64 a1.f2, .int .i64 a1.f3, .int .i64 a1.f4, .slice A2 a1.f5.length c3] 30, Blk b7 [.int .i64 0, .int .i64 0, .int .i64 0, .int .i64 0, .int .i64 0, .slice none 0 0] 30]) [0, 2, 1] 3 rfl rfl rfl⟩
end Go.Proofs.Ytmacdhkfgoahcaa.Sy
set_option linter.unusedVariables false
set_option linter.unusedSimpArgs false
set_option maxRecDepth 100000
set_option maxHeartbeats 4000000
namespace Go.Proofs.Ytmacdhkfgoahcaa.Sy
open Go Go.RowKit Go.Proofs.YtmacdhkfgoahcaaW.PrintWords 
def fold_numbers_op.f (a0_0 : MpS) (a1 : S30) : Option S30 := (if wfi a1.f2 then jn (γ := S30) (fun (x96 : Bool) => jn (γ := S30) (fun (x127 : Int) (x128 : Int) (x129 : Int) (x130 : Int) (x131 : Int) (l132 : (List Int)) => (slices_Clone_int_int.f l132).bind fun (y138 : (List Int)) => some (⟨x127, x128, x129, x130, x131, y138⟩ : S30)) (fun (j137 : (Int → Int → Int → Int → Int → (List Int) → Option S30)) => (if x96 = true then (fold_constant.f a1 (mget a0_0 a1.f2)).bind fun (y144 : S30) => some y144 else jn (γ := S30) (fun (x154 : Bool) => (if x154 = true then (fold_numbers_reckon.f a0_0 a1).bind fun (y166 : S30) => j137 y166.f0 y166.f1 y166.f2 y166.f3 y166.f4 y166.f5 else j137 a1.f0 a1.f1 a1.f2 a1.f3 a1.f4 a1.f5)) (fun (j155 : (Bool → Option S30)) => (if a1.f0 = 2 then (word_Known.f a1.f4).bind fun (y176 : Bool) => j155 y176 else j155 false))))) (fun (j97 : (Bool → Option S30)) => (if a1.f0 = 3 then j97 (mhas a0_0 a1.f2) else j97 false)) else none)
def fold_numbers_op.post (G : Gd) (b1 : Nat) (A2 : Option Addr) (c3 : Nat) (a0_0 : MpS) (a1 : S30) (r : S30) (v : Value) (G' : Gd) (Lr : List Ch) : Prop := ∃ (A_1 : Option Addr) (c_1 : Nat), v = .agg #[.int .i64 r.f0, .int .i64 r.f1, .int .i64 r.f2, .int .i64 r.f3, .int .i64 r.f4, .slice A_1 r.f5.length c_1] ∧ Lr = [Mp Try.prog 3 3 b1 a0_0, Row (Kd.int .i64) 3 (.slice A_1 r.f5.length c_1) r.f5]
theorem fold_numbers_op.calls {G : Gd} {r : S30} {a0_0 : MpS} {a1 : S30} {b1 : Nat} {A2 : Option Addr} {c3 : Nat} (hr4 : Rd G (Kd.int .i64) A2 a1.f5) (hl5 : a1.f5.length ≤ c3) (h : fold_numbers_op.f a0_0 a1 = some r) : Fn Try.prog 54 G [Mp Try.prog 3 3 b1 a0_0] [.map (some b1), .agg #[.int .i64 a1.f0, .int .i64 a1.f1, .int .i64 a1.f2, .int .i64 a1.f3, .int .i64 a1.f4, .slice A2 a1.f5.length c3]] (fold_numbers_op.post G b1 A2 c3 a0_0 a1 r) := by
 refine Fn.intro (e := [(0, .map (some b1)), (1, .agg #[.int .i64 a1.f0, .int .i64 a1.f1, .int .i64 a1.f2, .int .i64 a1.f3, .int .i64 a1.f4, .slice A2 a1.f5.length c3])]) 41 Try.func54 rfl Try.ntmps54 rfl rfl (Nat.le_of_ble_eq_true rfl) (fun L => ?_)
 unfold fold_numbers_op.f at h
 refine TC.seq ?_
 refine TC.region ?_
 refine TL.cons (TL.box (cs := [.int .i64 a1.f0, .int .i64 a1.f1, .int .i64 a1.f2, .int .i64 a1.f3, .int .i64 a1.f4, .slice A2 a1.f5.length c3]) rfl rfl rfl rfl (fun b6 => ?_))
 refine TL.cons (TL.alloc (cs := [.int .i64 0, .int .i64 0, .int .i64 0, .int .i64 0, .int .i64 0, .slice none 0 0]) rfl rfl zr30 rfl (fun b7 => ?_))
 refine TL.nil ?_
 refine TQ.then_ ?_
 refine TC.seq ?_
 refine TC.region ?_
 refine TL.cons (TO.val rfl rfl rfl (Val.move rfl) ?_)
 refine TL.cons (TO.val rfl rfl rfl (Val.fieldAddrB Try.underlying30 rfl fsz3 rfl rfl rfl) ?_)
 refine TL.cons (TO.val rfl rfl rfl (Val.loadB 1 agg3 rfl rfl rfl) ?_)
 obtain ⟨hz8, h⟩ := ite_no h
 refine TL.cons (TO.val rfl rfl rfl (Val.lookupOk 2 Try.underlying81 Try.underlying3 Try.underlying3 zr3 rfl rfl rfl hz8) ?_)
 refine TL.cons (TO.val rfl rfl rfl (Val.move rfl) ?_)
 refine TL.cons (TO.val rfl rfl rfl (Val.extract rfl rfl) ?_)
 refine TL.cons (TO.val rfl rfl rfl (Val.extract rfl rfl) ?_)
 refine TL.cons (TO.val rfl rfl rfl (Val.assign rfl) ?_)
 refine TL.cons (TO.val rfl rfl rfl (Val.assign rfl) ?_)
 refine TL.nil ?_
 refine TQ.then_ ?_
 refine TC.seq ?_
 refine TC.block ?_
 refine TC.seq ?_
 obtain ⟨j97, hj97, h⟩ := jn_no h
 refine TC.tail (fun a W => ∃ (x96 : Bool), j97 x96 = some r ∧ Fr 41 a [(0, .map (some b1)), (3, .pointer (some ⟨b6, 0, none⟩)), (4, .pointer (some ⟨b7, 0, none⟩)), (5, .int .i64 (mget a0_0 a1.f2)), (14, .bool x96)] ∧ Own G (Mp Try.prog 3 3 b1 a0_0 :: Blk b6 [.int .i64 a1.f0, .int .i64 a1.f1, .int .i64 a1.f2, .int .i64 a1.f3, .int .i64 a1.f4, .slice A2 a1.f5.length c3] 30 :: Blk b7 [.int .i64 0, .int .i64 0, .int .i64 0, .int .i64 0, .int .i64 0, .slice none 0 0] 30 :: L) W) ?_ ?_
 ·
  rintro a W ⟨x96, h, hF, hO⟩
  rw [hj97] at h
  refine TQ.use ?_ hF hO
  clear hF hO
  refine TQ.then_ ?_
  obtain ⟨j137, hj137, h⟩ := jn_no h
  refine TC.tail (fun a W => ∃ (x127 : Int) (x128 : Int) (x129 : Int) (x130 : Int) (x131 : Int) (l132 : (List Int)) (G125 : Gd) (A133 : Option Addr) (c134 : Nat), j137 x127 x128 x129 x130 x131 l132 = some r ∧ G.le G125 ∧ Rd G125 (Kd.int .i64) A133 l132 ∧ l132.length ≤ c134 ∧ Fr 41 a [(3, .pointer (some ⟨b6, 0, none⟩)), (4, .pointer (some ⟨b7, 0, none⟩))] ∧ Own G125 (Mp Try.prog 3 3 b1 a0_0 :: Blk b6 [.int .i64 x127, .int .i64 x128, .int .i64 x129, .int .i64 x130, .int .i64 x131, .slice A133 l132.length c134] 30 :: Blk b7 [.int .i64 0, .int .i64 0, .int .i64 0, .int .i64 0, .int .i64 0, .slice none 0 0] 30 :: L) W) ?_ ?_
  ·
   rintro a W ⟨x127, x128, x129, x130, x131, l132, G125, A133, c134, h, e126, hr135, hl136, hF, hO⟩
   rw [hj137] at h
   refine TQ.use ?_ hF hO
   clear hF hO
   refine TQ.inB ?_
   refine TQ.then_ ?_
   refine TC.seq ?_
   refine TC.region ?_
   refine TL.cons (TO.val rfl rfl rfl (Val.fieldAddrB Try.underlying30 rfl fsz22 rfl rfl rfl) ?_)
   refine TL.cons (TO.val rfl rfl rfl (Val.loadB 1 agg22 rfl rfl rfl) ?_)
   obtain ⟨y138, hy139, h⟩ := bind_no h
   refine TL.cons (TL.callV (Lin := []) (args := [.slice A133 l132.length c134]) rfl rfl rfl hbd37 rfl rfl (slices_Clone_int_int.calls (a0 := l132) hr135 hl136 hy139) rfl ?_)
   rintro _ _ _ _ ⟨rfl, A140, c141, rfl, rfl⟩
   refine TL.cons (TO.val rfl rfl rfl (Val.fieldAddrB Try.underlying30 rfl fsz22 rfl rfl rfl) ?_)
   refine TL.cons (TL.store 2 (ds := [.slice A140 y138.length c141]) (cs' := [.int .i64 x127, .int .i64 x128, .int .i64 x129, .int .i64 x130, .int .i64 x131, .slice A140 y138.length c141]) (L' := (Row (Kd.int .i64) 3 (.slice A140 y138.length c141) y138 :: Mp Try.prog 3 3 b1 a0_0 :: Blk b6 [.int .i64 x127, .int .i64 x128, .int .i64 x129, .int .i64 x130, .int .i64 x131, .slice A140 y138.length c141] 30 :: Blk b7 [.int .i64 0, .int .i64 0, .int .i64 0, .int .i64 0, .int .i64 0, .slice none 0 0] 30 :: L)) rfl fsz22 rfl rfl rfl rfl rfl (Nat.le_of_ble_eq_true rfl) rfl rfl ?_)
   refine TL.nil ?_
   refine TQ.then_ ?_
   refine TC.seq ?_
   refine TC.region ?_
   refine TL.cons (TO.val rfl rfl rfl (Val.loadsB 2 (cs := [.int .i64 x127, .int .i64 x128, .int .i64 x129, .int .i64 x130, .int .i64 x131, .slice A140 y138.length c141]) agg30 fsz30 rfl rfl rfl rfl) ?_)
   refine TL.cons (TL.store 3 (ds := [.int .i64 x127, .int .i64 x128, .int .i64 x129, .int .i64 x130, .int .i64 x131, .slice A140 y138.length c141]) (cs' := [.int .i64 x127, .int .i64 x128, .int .i64 x129, .int .i64 x130, .int .i64 x131, .slice A140 y138.length c141]) (L' := (Row (Kd.int .i64) 3 (.slice A140 y138.length c141) y138 :: Mp Try.prog 3 3 b1 a0_0 :: Blk b6 [.int .i64 x127, .int .i64 x128, .int .i64 x129, .int .i64 x130, .int .i64 x131, .slice A140 y138.length c141] 30 :: Blk b7 [.int .i64 x127, .int .i64 x128, .int .i64 x129, .int .i64 x130, .int .i64 x131, .slice A140 y138.length c141] 30 :: L)) rfl fsz30 rfl rfl rfl rfl rfl (Nat.le_of_ble_eq_true rfl) rfl rfl ?_)
   refine TL.nil ?_
   refine TQ.then_ ?_
   refine TC.ret ?_
   obtain rfl := Option.some.inj h
   exact TQ.fin (.inl rfl) rfl Try.results54 (.cells 3 rfl rfl agg30 fsz30 .nil) rfl (FRel.mk (Ls := [Mp Try.prog 3 3 b1 a0_0, Row (Kd.int .i64) 3 (.slice A140 y138.length c141) y138]) [1, 0] 4 e126 rfl rfl rfl ⟨A140, c141, rfl, rfl⟩)
  ·
   refine TC.cond_b rfl h (fun hc143 h => ?_) (fun hc143 h => ?_)
   ·
    refine TC.seq ?_
    refine TC.region ?_
    refine TL.cons (TO.val rfl rfl rfl (Val.loadsB 1 (cs := [.int .i64 a1.f0, .int .i64 a1.f1, .int .i64 a1.f2, .int .i64 a1.f3, .int .i64 a1.f4, .slice A2 a1.f5.length c3]) agg30 fsz30 rfl rfl rfl rfl) ?_)
    refine TL.cons (TO.val rfl rfl rfl (Val.move rfl) ?_)
    obtain ⟨y144, hy145, h⟩ := bind_no h
    refine TL.cons (TL.callV (Lin := []) (args := [.agg #[.int .i64 a1.f0, .int .i64 a1.f1, .int .i64 a1.f2, .int .i64 a1.f3, .int .i64 a1.f4, .slice A2 a1.f5.length c3], .int .i64 (mget a0_0 a1.f2)]) rfl rfl rfl hbd77 rfl rfl (fold_constant.calls (a0 := a1) (a1 := (mget a0_0 a1.f2)) hr4 hl5 hy145) rfl ?_)
    rintro _ _ _ _ ⟨rfl, A146, c147, rfl, rfl⟩
    refine TL.cons (TL.store 3 (ds := [.int .i64 y144.f0, .int .i64 y144.f1, .int .i64 y144.f2, .int .i64 y144.f3, .int .i64 y144.f4, .slice A146 y144.f5.length c147]) (cs' := [.int .i64 y144.f0, .int .i64 y144.f1, .int .i64 y144.f2, .int .i64 y144.f3, .int .i64 y144.f4, .slice A146 y144.f5.length c147]) (L' := (Row (Kd.int .i64) 3 (.slice A146 y144.f5.length c147) y144.f5 :: Mp Try.prog 3 3 b1 a0_0 :: Blk b6 [.int .i64 a1.f0, .int .i64 a1.f1, .int .i64 a1.f2, .int .i64 a1.f3, .int .i64 a1.f4, .slice A2 a1.f5.length c3] 30 :: Blk b7 [.int .i64 y144.f0, .int .i64 y144.f1, .int .i64 y144.f2, .int .i64 y144.f3, .int .i64 y144.f4, .slice A146 y144.f5.length c147] 30 :: L)) rfl fsz30 rfl rfl rfl rfl rfl (Nat.le_of_ble_eq_true rfl) rfl rfl ?_)
    refine TL.nil ?_
    refine TQ.then_ ?_
    refine TC.ret ?_
    refine TQ.thenR ?_
    refine TQ.inBR ?_
    refine TQ.thenR ?_
    obtain rfl := Option.some.inj h
    exact TQ.fin (.inl rfl) rfl Try.results54 (.cells 3 rfl rfl agg30 fsz30 .nil) rfl (FRel.mk (Ls := [Mp Try.prog 3 3 b1 a0_0, Row (Kd.int .i64) 3 (.slice A146 y144.f5.length c147) y144.f5]) [1, 0] 4 (Gd.le.refl _) rfl rfl rfl ⟨A146, c147, rfl, rfl⟩)
   ·
    refine TC.seq ?_
    obtain ⟨j155, hj155, h⟩ := jn_no h
    refine TC.tail (fun a W => ∃ (x154 : Bool), j155 x154 = some r ∧ Fr 41 a [(0, .map (some b1)), (3, .pointer (some ⟨b6, 0, none⟩)), (4, .pointer (some ⟨b7, 0, none⟩)), (24, .bool x154)] ∧ Own G (Mp Try.prog 3 3 b1 a0_0 :: Blk b6 [.int .i64 a1.f0, .int .i64 a1.f1, .int .i64 a1.f2, .int .i64 a1.f3, .int .i64 a1.f4, .slice A2 a1.f5.length c3] 30 :: Blk b7 [.int .i64 0, .int .i64 0, .int .i64 0, .int .i64 0, .int .i64 0, .slice none 0 0] 30 :: L) W) ?_ ?_
    ·
     rintro a W ⟨x154, h, hF, hO⟩
     rw [hj155] at h
     refine TQ.use ?_ hF hO
     clear hF hO
     refine TQ.then_ ?_
     refine TC.cond_b rfl h (fun hc165 h => ?_) (fun hc165 h => ?_)
     ·
      refine TC.region ?_
      refine TL.cons (TO.val rfl rfl rfl (Val.move rfl) ?_)
      refine TL.cons (TO.val rfl rfl rfl (Val.loadsB 1 (cs := [.int .i64 a1.f0, .int .i64 a1.f1, .int .i64 a1.f2, .int .i64 a1.f3, .int .i64 a1.f4, .slice A2 a1.f5.length c3]) agg30 fsz30 rfl rfl rfl rfl) ?_)
      obtain ⟨y166, hy167, h⟩ := bind_no h
      refine TL.cons (TL.callV (Lin := [Mp Try.prog 3 3 b1 a0_0]) (args := [.map (some b1), .agg #[.int .i64 a1.f0, .int .i64 a1.f1, .int .i64 a1.f2, .int .i64 a1.f3, .int .i64 a1.f4, .slice A2 a1.f5.length c3]]) rfl rfl rfl hbd78 rfl rfl (fold_numbers_reckon.calls (a0_0 := a0_0) (a1 := a1) hr4 hl5 hy167) rfl ?_)
      rintro _ G168 _ e169 ⟨A170, c171, rfl, rfl, hr172, hl173⟩
      refine TL.cons (TL.store 1 (ds := [.int .i64 y166.f0, .int .i64 y166.f1, .int .i64 y166.f2, .int .i64 y166.f3, .int .i64 y166.f4, .slice A170 y166.f5.length c171]) (cs' := [.int .i64 y166.f0, .int .i64 y166.f1, .int .i64 y166.f2, .int .i64 y166.f3, .int .i64 y166.f4, .slice A170 y166.f5.length c171]) (L' := (Mp Try.prog 3 3 b1 a0_0 :: Blk b6 [.int .i64 y166.f0, .int .i64 y166.f1, .int .i64 y166.f2, .int .i64 y166.f3, .int .i64 y166.f4, .slice A170 y166.f5.length c171] 30 :: Blk b7 [.int .i64 0, .int .i64 0, .int .i64 0, .int .i64 0, .int .i64 0, .slice none 0 0] 30 :: L)) rfl fsz30 rfl rfl rfl rfl rfl (Nat.le_of_ble_eq_true rfl) rfl rfl ?_)
      refine TL.nil ?_
      exact fun a W hF hO => ⟨y166.f0, y166.f1, y166.f2, y166.f3, y166.f4, y166.f5, G168, A170, c171, h, e169, hr172, hl173, hF.sub ⟨rfl, rfl, trivial⟩, hO.selT (Ls := [Mp Try.prog 3 3 b1 a0_0, Blk b6 [.int .i64 y166.f0, .int .i64 y166.f1, .int .i64 y166.f2, .int .i64 y166.f3, .int .i64 y166.f4, .slice A170 y166.f5.length c171] 30, Blk b7 [.int .i64 0, .int .i64 0, .int .i64 0, .int .i64 0, .int .i64 0, .slice none 0 0] 30]) [0, 1, 2] 3 rfl rfl rfl⟩
     ·
      refine TC.skip ?_
      exact fun a W hF hO => ⟨a1.f0, a1.f1, a1.f2, a1.f3, a1.f4, a1.f5, G, A2, c3, h, (Gd.le.refl _), hr4, hl5, hF.sub ⟨rfl, rfl, trivial⟩, hO.selT (Ls := [Mp Try.prog 3 3 b1 a0_0, Blk b6 [.int .i64 a1.f0, .int .i64 a1.f1, .int .i64 a1.f2, .int .i64 a1.f3, .int .i64 a1.f4, .slice A2 a1.f5.length c3] 30, Blk b7 [.int .i64 0, .int .i64 0, .int .i64 0, .int .i64 0, .int .i64 0, .slice none 0 0] 30]) [0, 1, 2] 3 rfl rfl rfl⟩
    ·
     refine TC.region ?_
     refine TL.cons (TO.val rfl rfl rfl (Val.fieldAddrB Try.underlying30 rfl fsz3 rfl rfl rfl) ?_)
     refine TL.cons (TO.val rfl rfl rfl (Val.loadB 1 agg3 rfl rfl rfl) ?_)
     refine TL.cons (TO.val rfl rfl rfl (Val.cmp rfl rfl run_eql) ?_)
     refine TL.cons (TO.val rfl rfl rfl (Val.move rfl) ?_)
     refine TK.split (p := a1.f0 = 2) h (fun hg174 h => ?_) (fun hg174 h => ?_)
     ·
      have hk175 : decide (a1.f0 = 2) = true := decide_eq_true hg174
      refine TL.cons (TO.val (Wt.yes rfl rfl rfl hk175) rfl rfl (Val.fieldAddrB Try.underlying30 rfl fsz3 rfl rfl rfl) ?_)
      refine TL.cons (TO.val (Wt.yes rfl rfl rfl hk175) rfl rfl (Val.loadB 1 agg3 rfl rfl rfl) ?_)
      obtain ⟨y176, hy177, h⟩ := bind_no h
      refine TL.cons (TL.callV (Lin := []) (args := [.int .i64 a1.f4]) (Wt.yes rfl rfl rfl hk175) rfl rfl hbd27 rfl rfl (word_Known.calls (a0 := a1.f4) hy177) rfl ?_)
      rintro _ _ _ _ ⟨rfl, rfl, rfl⟩
      refine TL.cons (TO.val rfl rfl rfl (Val.pickY rfl hk175 rfl) ?_)
      refine TL.cons (TO.val rfl rfl rfl (Val.assign rfl) ?_)
      refine TL.nil ?_
      exact fun a W hF hO => ⟨y176, h, hF.sub ⟨rfl, rfl, rfl, rfl, trivial⟩, hO.selT (Ls := [Mp Try.prog 3 3 b1 a0_0, Blk b6 [.int .i64 a1.f0, .int .i64 a1.f1, .int .i64 a1.f2, .int .i64 a1.f3, .int .i64 a1.f4, .slice A2 a1.f5.length c3] 30, Blk b7 [.int .i64 0, .int .i64 0, .int .i64 0, .int .i64 0, .int .i64 0, .slice none 0 0] 30]) [0, 1, 2] 3 rfl rfl rfl⟩
     ·
      have hk178 : decide (a1.f0 = 2) = false := decide_eq_false hg174
      refine TL.cons (TL.not (Wt.no rfl rfl rfl hk178) rfl ?_)
      refine TL.cons (TL.not (Wt.no rfl rfl rfl hk178) rfl ?_)
      refine TL.cons (TL.not (Wt.no rfl rfl rfl hk178) rfl ?_)
      refine TL.cons (TO.val rfl rfl rfl (Val.pickN rfl hk178 rfl) ?_)
      refine TL.cons (TO.val rfl rfl rfl (Val.assign rfl) ?_)
      refine TL.nil ?_
      exact fun a W hF hO => ⟨false, h, hF.sub ⟨rfl, rfl, rfl, rfl, trivial⟩, hO.selT (Ls := [Mp Try.prog 3 3 b1 a0_0, Blk b6 [.int .i64 a1.f0, .int .i64 a1.f1, .int .i64 a1.f2, .int .i64 a1.f3, .int .i64 a1.f4, .slice A2 a1.f5.length c3] 30, Blk b7 [.int .i64 0, .int .i64 0, .int .i64 0, .int .i64 0, .int .i64 0, .slice none 0 0] 30]) [0, 1, 2] 3 rfl rfl rfl⟩
 ·
  refine TC.region ?_
  refine TL.cons (TO.val rfl rfl rfl (Val.fieldAddrB Try.underlying30 rfl fsz3 rfl rfl rfl) ?_)
  refine TL.cons (TO.val rfl rfl rfl (Val.loadB 1 agg3 rfl rfl rfl) ?_)
  refine TL.cons (TO.val rfl rfl rfl (Val.cmp rfl rfl run_eql) ?_)
  refine TL.cons (TO.val rfl rfl rfl (Val.move rfl) ?_)
  refine TK.split (p := a1.f0 = 3) h (fun hg179 h => ?_) (fun hg179 h => ?_)
  ·
   have hk180 : decide (a1.f0 = 3) = true := decide_eq_true hg179
   refine TL.cons (TO.val (Wt.yes rfl rfl rfl hk180) rfl rfl (Val.move rfl) ?_)
   refine TL.cons (TO.val rfl rfl rfl (Val.pickY rfl hk180 rfl) ?_)
   refine TL.cons (TO.val rfl rfl rfl (Val.assign rfl) ?_)
   refine TL.nil ?_
   exact fun a W hF hO => ⟨(mhas a0_0 a1.f2), h, hF.sub ⟨rfl, rfl, rfl, rfl, rfl, trivial⟩, hO.selT (Ls := [Mp Try.prog 3 3 b1 a0_0, Blk b6 [.int .i64 a1.f0, .int .i64 a1.f1, .int .i64 a1.f2, .int .i64 a1.f3, .int .i64 a1.f4, .slice A2 a1.f5.length c3] 30, Blk b7 [.int .i64 0, .int .i64 0, .int .i64 0, .int .i64 0, .int .i64 0, .slice none 0 0] 30]) [2, 1, 0] 3 rfl rfl rfl⟩
  ·
   have hk181 : decide (a1.f0 = 3) = false := decide_eq_false hg179
   refine TL.cons (TL.not (Wt.no rfl rfl rfl hk181) rfl ?_)
   refine TL.cons (TO.val rfl rfl rfl (Val.pickN rfl hk181 rfl) ?_)
   refine TL.cons (TO.val rfl rfl rfl (Val.assign rfl) ?_)
   refine TL.nil ?_
   exact fun a W hF hO => ⟨false, h, hF.sub ⟨rfl, rfl, rfl, rfl, rfl, trivial⟩, hO.selT (Ls := [Mp Try.prog 3 3 b1 a0_0, Blk b6 [.int .i64 a1.f0, .int .i64 a1.f1, .int .i64 a1.f2, .int .i64 a1.f3, .int .i64 a1.f4, .slice A2 a1.f5.length c3] 30, Blk b7 [.int .i64 0, .int .i64 0, .int .i64 0, .int .i64 0, .int .i64 0, .slice none 0 0] 30]) [2, 1, 0] 3 rfl rfl rfl⟩
end Go.Proofs.Ytmacdhkfgoahcaa.Sy
set_option linter.unusedVariables false
set_option linter.unusedSimpArgs false
set_option maxRecDepth 100000
set_option maxHeartbeats 4000000
namespace Go.Proofs.Ytmacdhkfgoahcaa.Sy
open Go Go.RowKit Go.Proofs.YtmacdhkfgoahcaaW.PrintWords 
def fold_facts_held.f (a0_0_0 : MpS) (a0_1_0 : MpS) (a1 : Int) : Option Int := (if wfi a1 then (if (mhas a0_1_0 a1) = true then some (mget a0_1_0 a1) else some a1) else none)
def fold_facts_held.post (G : Gd) (b1 : Nat) (b2 : Nat) (b3 : Nat) (a0_0_0 : MpS) (a0_1_0 : MpS) (a1 : Int) (r : Int) (v : Value) (G' : Gd) (Lr : List Ch) : Prop := G = G' ∧ v = .int .i64 r ∧ Lr = [Blk b1 [.map (some b2), .map (some b3)] 83, Mp Try.prog 3 3 b2 a0_0_0, Mp Try.prog 3 3 b3 a0_1_0]
theorem fold_facts_held.calls {G : Gd} {r : Int} {a0_0_0 : MpS} {a0_1_0 : MpS} {a1 : Int} {b1 : Nat} {b2 : Nat} {b3 : Nat} (h : fold_facts_held.f a0_0_0 a0_1_0 a1 = some r) : Fn Try.prog 79 G [Blk b1 [.map (some b2), .map (some b3)] 83, Mp Try.prog 3 3 b2 a0_0_0, Mp Try.prog 3 3 b3 a0_1_0] [.pointer (some ⟨b1, 0, none⟩), .int .i64 a1] (fold_facts_held.post G b1 b2 b3 a0_0_0 a0_1_0 a1 r) := by
 refine Fn.intro (e := [(0, .pointer (some ⟨b1, 0, none⟩)), (1, .int .i64 a1)]) 19 Try.func79 rfl Try.ntmps79 rfl rfl (Nat.le_of_ble_eq_true rfl) (fun L => ?_)
 unfold fold_facts_held.f at h
 refine TC.seq ?_
 refine TC.region ?_
 refine TL.cons (TO.val rfl rfl rfl (Val.assign rfl) ?_)
 refine TL.nil ?_
 refine TQ.then_ ?_
 refine TC.seq ?_
 refine TC.seq ?_
 refine TC.region ?_
 refine TL.cons (TO.val rfl rfl rfl (Val.move rfl) ?_)
 refine TL.cons (TO.val rfl rfl rfl (Val.nilCheck rfl) ?_)
 refine TL.cons (TO.val rfl rfl rfl (Val.fieldAddrB Try.underlying83 rfl fsz80 rfl rfl rfl) ?_)
 refine TL.cons (TO.val rfl rfl rfl (Val.loadB 0 agg80 rfl rfl rfl) ?_)
 refine TL.cons (TO.val rfl rfl rfl (Val.move rfl) ?_)
 obtain ⟨hz4, h⟩ := ite_no h
 refine TL.cons (TO.val rfl rfl rfl (Val.lookupOk 2 Try.underlying80 Try.underlying3 Try.underlying3 zr3 rfl rfl rfl hz4) ?_)
 refine TL.cons (TO.val rfl rfl rfl (Val.move rfl) ?_)
 refine TL.cons (TO.val rfl rfl rfl (Val.extract rfl rfl) ?_)
 refine TL.cons (TO.val rfl rfl rfl (Val.extract rfl rfl) ?_)
 refine TL.cons (TO.val rfl rfl rfl (Val.assign rfl) ?_)
 refine TL.cons (TO.val rfl rfl rfl (Val.assign rfl) ?_)
 refine TL.nil ?_
 refine TQ.then_ ?_
 refine TC.seq ?_
 refine TC.region ?_
 refine TL.cons (TO.val rfl rfl rfl (Val.move rfl) ?_)
 refine TL.nil ?_
 refine TQ.then_ ?_
 refine TC.cond_b rfl h (fun hc6 h => ?_) (fun hc6 h => ?_)
 ·
  refine TC.seq ?_
  refine TC.region ?_
  refine TL.cons (TO.val rfl rfl rfl (Val.move rfl) ?_)
  refine TL.cons (TO.val rfl rfl rfl (Val.assign rfl) ?_)
  refine TL.nil ?_
  refine TQ.then_ ?_
  refine TC.ret ?_
  refine TQ.thenR ?_
  obtain rfl := Option.some.inj h
  exact TQ.fin (.inl rfl) rfl Try.results79 (.tmp rfl .nil) rfl (FRel.mk (Ls := [Blk b1 [.map (some b2), .map (some b3)] 83, Mp Try.prog 3 3 b2 a0_0_0, Mp Try.prog 3 3 b3 a0_1_0]) [0, 1, 2] 3 (Gd.le.refl _) rfl rfl rfl ⟨rfl, rfl, rfl⟩)
 ·
  refine TC.skip ?_
  refine TQ.then_ ?_
  refine TC.seq ?_
  refine TC.region ?_
  refine TL.cons (TO.val rfl rfl rfl (Val.move rfl) ?_)
  refine TL.cons (TO.val rfl rfl rfl (Val.assign rfl) ?_)
  refine TL.nil ?_
  refine TQ.then_ ?_
  refine TC.ret ?_
  obtain rfl := Option.some.inj h
  exact TQ.fin (.inl rfl) rfl Try.results79 (.tmp rfl .nil) rfl (FRel.mk (Ls := [Blk b1 [.map (some b2), .map (some b3)] 83, Mp Try.prog 3 3 b2 a0_0_0, Mp Try.prog 3 3 b3 a0_1_0]) [0, 1, 2] 3 (Gd.le.refl _) rfl rfl rfl ⟨rfl, rfl, rfl⟩)
end Go.Proofs.Ytmacdhkfgoahcaa.Sy
set_option linter.unusedVariables false
set_option linter.unusedSimpArgs false
set_option maxRecDepth 100000
set_option maxHeartbeats 4000000
namespace Go.Proofs.Ytmacdhkfgoahcaa.Sy
open Go Go.RowKit Go.Proofs.YtmacdhkfgoahcaaW.PrintWords 
def fold_facts_replaced.l0 (a0_0_0 : MpS) (a0_1_0 : MpS) (y1712 : (List Int)) : Nat → (List Int) → Int → Option ((List Int))
 | 0, _, _ => none
 | n1994 + 1, l1919, x1924 => (if x1924 < (y1712.length : Int) then (at? l1919 x1924).bind fun y2103 => (fold_facts_held.f a0_0_0 a0_1_0 y2103).bind fun (y2120 : Int) => (at? l1919 x1924).bind fun y2122 => fold_facts_replaced.l0 a0_0_0 a0_1_0 y1712 n1994 (l1919.set x1924.toNat y2120) (IntKind.i64.wrap (x1924 + 1)) else some l1919)
def fold_facts_replaced.f (a0_0_0 : MpS) (a0_1_0 : MpS) (a1 : S30) : Option S30 := jn (γ := S30) (fun (x815 : Bool) => jn (γ := S30) (fun (x1120 : Int) (x1121 : Int) (l1122 : (List Int)) => some (⟨a1.f0, a1.f1, x1120, x1121, a1.f4, l1122⟩ : S30)) (fun (j1127 : (Int → Int → (List Int) → Option S30)) => (if x815 = true then (fold_facts_held.f a0_0_0 a0_1_0 a1.f2).bind fun (y1133 : Int) => (fold_facts_held.f a0_0_0 a0_1_0 a1.f3).bind fun (y1135 : Int) => j1127 y1133 y1135 a1.f5 else jn (γ := S30) (fun (x1139 : Bool) => (if x1139 = true then (fold_facts_held.f a0_0_0 a0_1_0 a1.f2).bind fun (y1427 : Int) => j1127 y1427 a1.f3 a1.f5 else (if a1.f0 = 7 then (slices_Clone_int_int.f a1.f5).bind fun (y1712 : (List Int)) => (fold_facts_replaced.l0 a0_0_0 a0_1_0 y1712 (y1712.length + 1) y1712 0).bind fun (l1989 : (List Int)) => j1127 a1.f2 a1.f3 l1989 else j1127 a1.f2 a1.f3 a1.f5))) (fun (j1140 : (Bool → Option S30)) => (if a1.f0 = 3 then j1140 (decide (a1.f0 = 3)) else (if a1.f0 = 4 then j1140 (decide (a1.f0 = 4)) else j1140 (decide (a1.f0 = 9)))))))) (fun (j816 : (Bool → Option S30)) => (if a1.f0 = 2 then j816 (decide (a1.f0 = 2)) else j816 (decide (a1.f0 = 5))))
def fold_facts_replaced.post (G : Gd) (b1 : Nat) (b2 : Nat) (b3 : Nat) (A4 : Option Addr) (c5 : Nat) (a0_0_0 : MpS) (a0_1_0 : MpS) (a1 : S30) (r : S30) (v : Value) (G' : Gd) (Lr : List Ch) : Prop := ∃ (A_1 : Option Addr) (c_1 : Nat), v = .agg #[.int .i64 r.f0, .int .i64 r.f1, .int .i64 r.f2, .int .i64 r.f3, .int .i64 r.f4, .slice A_1 r.f5.length c_1] ∧ Lr = [Blk b1 [.map (some b2), .map (some b3)] 83, Mp Try.prog 3 3 b2 a0_0_0, Mp Try.prog 3 3 b3 a0_1_0] ∧ Rd G' (Kd.int .i64) A_1 r.f5 ∧ r.f5.length ≤ c_1
theorem fold_facts_replaced.calls {G : Gd} {r : S30} {a0_0_0 : MpS} {a0_1_0 : MpS} {a1 : S30} {b1 : Nat} {b2 : Nat} {b3 : Nat} {A4 : Option Addr} {c5 : Nat} (hr6 : Rd G (Kd.int .i64) A4 a1.f5) (hl7 : a1.f5.length ≤ c5) (h : fold_facts_replaced.f a0_0_0 a0_1_0 a1 = some r) : Fn Try.prog 55 G [Blk b1 [.map (some b2), .map (some b3)] 83, Mp Try.prog 3 3 b2 a0_0_0, Mp Try.prog 3 3 b3 a0_1_0] [.pointer (some ⟨b1, 0, none⟩), .agg #[.int .i64 a1.f0, .int .i64 a1.f1, .int .i64 a1.f2, .int .i64 a1.f3, .int .i64 a1.f4, .slice A4 a1.f5.length c5]] (fold_facts_replaced.post G b1 b2 b3 A4 c5 a0_0_0 a0_1_0 a1 r) := by
 refine Fn.intro (e := [(0, .pointer (some ⟨b1, 0, none⟩)), (1, .agg #[.int .i64 a1.f0, .int .i64 a1.f1, .int .i64 a1.f2, .int .i64 a1.f3, .int .i64 a1.f4, .slice A4 a1.f5.length c5])]) 54 Try.func55 rfl Try.ntmps55 rfl rfl (Nat.le_of_ble_eq_true rfl) (fun L => ?_)
 unfold fold_facts_replaced.f at h
 refine TC.seq ?_
 refine TC.region ?_
 refine TL.cons (TL.box (cs := [.int .i64 a1.f0, .int .i64 a1.f1, .int .i64 a1.f2, .int .i64 a1.f3, .int .i64 a1.f4, .slice A4 a1.f5.length c5]) rfl rfl rfl rfl (fun b8 => ?_))
 refine TL.cons (TL.alloc (cs := [.int .i64 0, .int .i64 0, .int .i64 0, .int .i64 0, .int .i64 0, .slice none 0 0]) rfl rfl zr30 rfl (fun b9 => ?_))
 refine TL.nil ?_
 refine TQ.then_ ?_
 refine TC.seq ?_
 refine TC.seq ?_
 refine TC.region ?_
 refine TL.cons (TO.val rfl rfl rfl (Val.fieldAddrB Try.underlying30 rfl fsz3 rfl rfl rfl) ?_)
 refine TL.cons (TO.val rfl rfl rfl (Val.loadB 1 agg3 rfl rfl rfl) ?_)
 refine TL.nil ?_
 refine TQ.then_ ?_
 refine TC.block ?_
 refine TC.seq ?_
 refine TC.seq ?_
 refine TC.region ?_
 refine TL.cons (TO.val rfl rfl rfl (Val.cmp rfl rfl run_eql) ?_)
 refine TL.cons (TO.val rfl rfl rfl (Val.assign rfl) ?_)
 refine TL.nil ?_
 refine TQ.then_ ?_
 obtain ⟨j816, hj816, h⟩ := jn_no h
 refine TC.tail (fun a W => ∃ (x815 : Bool), j816 x815 = some r ∧ Fr 54 a [(0, .pointer (some ⟨b1, 0, none⟩)), (3, .pointer (some ⟨b8, 0, none⟩)), (4, .pointer (some ⟨b9, 0, none⟩)), (8, .int .i64 a1.f0), (9, .bool x815)] ∧ Own G (Blk b1 [.map (some b2), .map (some b3)] 83 :: Mp Try.prog 3 3 b2 a0_0_0 :: Mp Try.prog 3 3 b3 a0_1_0 :: Blk b8 [.int .i64 a1.f0, .int .i64 a1.f1, .int .i64 a1.f2, .int .i64 a1.f3, .int .i64 a1.f4, .slice A4 a1.f5.length c5] 30 :: Blk b9 [.int .i64 0, .int .i64 0, .int .i64 0, .int .i64 0, .int .i64 0, .slice none 0 0] 30 :: L) W) ?_ ?_
 ·
  rintro a W ⟨x815, h, hF, hO⟩
  rw [hj816] at h
  refine TQ.use ?_ hF hO
  clear hF hO
  refine TQ.then_ ?_
  obtain ⟨j1127, hj1127, h⟩ := jn_no h
  refine TC.tail (fun a W => ∃ (x1120 : Int) (x1121 : Int) (l1122 : (List Int)) (G1118 : Gd) (A1123 : Option Addr) (c1124 : Nat), j1127 x1120 x1121 l1122 = some r ∧ G.le G1118 ∧ Rd G1118 (Kd.int .i64) A1123 l1122 ∧ l1122.length ≤ c1124 ∧ Fr 54 a [(3, .pointer (some ⟨b8, 0, none⟩)), (4, .pointer (some ⟨b9, 0, none⟩))] ∧ Own G1118 (Blk b1 [.map (some b2), .map (some b3)] 83 :: Mp Try.prog 3 3 b2 a0_0_0 :: Mp Try.prog 3 3 b3 a0_1_0 :: Blk b8 [.int .i64 a1.f0, .int .i64 a1.f1, .int .i64 x1120, .int .i64 x1121, .int .i64 a1.f4, .slice A1123 l1122.length c1124] 30 :: Blk b9 [.int .i64 0, .int .i64 0, .int .i64 0, .int .i64 0, .int .i64 0, .slice none 0 0] 30 :: L) W) ?_ ?_
  ·
   rintro a W ⟨x1120, x1121, l1122, G1118, A1123, c1124, h, e1119, hr1125, hl1126, hF, hO⟩
   rw [hj1127] at h
   refine TQ.use ?_ hF hO
   clear hF hO
   refine TQ.inB ?_
   refine TQ.then_ ?_
   refine TC.seq ?_
   refine TC.region ?_
   refine TL.cons (TO.val rfl rfl rfl (Val.loadsB 3 (cs := [.int .i64 a1.f0, .int .i64 a1.f1, .int .i64 x1120, .int .i64 x1121, .int .i64 a1.f4, .slice A1123 l1122.length c1124]) agg30 fsz30 rfl rfl rfl rfl) ?_)
   refine TL.cons (TL.store 4 (ds := [.int .i64 a1.f0, .int .i64 a1.f1, .int .i64 x1120, .int .i64 x1121, .int .i64 a1.f4, .slice A1123 l1122.length c1124]) (cs' := [.int .i64 a1.f0, .int .i64 a1.f1, .int .i64 x1120, .int .i64 x1121, .int .i64 a1.f4, .slice A1123 l1122.length c1124]) (L' := (Blk b1 [.map (some b2), .map (some b3)] 83 :: Mp Try.prog 3 3 b2 a0_0_0 :: Mp Try.prog 3 3 b3 a0_1_0 :: Blk b8 [.int .i64 a1.f0, .int .i64 a1.f1, .int .i64 x1120, .int .i64 x1121, .int .i64 a1.f4, .slice A1123 l1122.length c1124] 30 :: Blk b9 [.int .i64 a1.f0, .int .i64 a1.f1, .int .i64 x1120, .int .i64 x1121, .int .i64 a1.f4, .slice A1123 l1122.length c1124] 30 :: L)) rfl fsz30 rfl rfl rfl rfl rfl (Nat.le_of_ble_eq_true rfl) rfl rfl ?_)
   refine TL.nil ?_
   refine TQ.then_ ?_
   refine TC.ret ?_
   obtain rfl := Option.some.inj h
   exact TQ.fin (.inl rfl) rfl Try.results55 (.cells 4 rfl rfl agg30 fsz30 .nil) rfl (FRel.mk (Ls := [Blk b1 [.map (some b2), .map (some b3)] 83, Mp Try.prog 3 3 b2 a0_0_0, Mp Try.prog 3 3 b3 a0_1_0]) [0, 1, 2] 5 e1119 rfl rfl rfl ⟨A1123, c1124, rfl, rfl, hr1125, hl1126⟩)
  ·
   refine TC.cond_b rfl h (fun hc1128 h => ?_) (fun hc1128 h => ?_)
   ·
    refine TC.regionAny [9, 10, 11] [0, 1, 2, 4, 5, 6, 8] mixed (by kernel_rfl) ?_
    refine TA.take 0 rfl (by kernel_rfl) rfl (PQ.then_ (PQ.inB (PQ.then_ PQ.body))) rfl (Val.move rfl) (fun W hO => hO) ?_
    refine TA.take 1 rfl (by kernel_rfl) rfl (PQ.then_ (PQ.inB (PQ.then_ PQ.body))) rfl (Val.fieldAddrB Try.underlying30 rfl fsz3 rfl rfl rfl) (fun W hO => hO) ?_
    refine TA.take 2 rfl (by kernel_rfl) rfl (PQ.then_ (PQ.inB (PQ.then_ PQ.body))) rfl (Val.loadB 3 agg3 rfl rfl rfl) (fun W hO => hO) ?_
    refine TA.take 4 rfl (by kernel_rfl) rfl (PQ.then_ (PQ.inB (PQ.then_ PQ.body))) rfl (Val.move rfl) (fun W hO => hO) ?_
    refine TA.take 5 rfl (by kernel_rfl) rfl (PQ.then_ (PQ.inB (PQ.then_ PQ.body))) rfl (Val.fieldAddrB Try.underlying30 rfl fsz3 rfl rfl rfl) (fun W hO => hO) ?_
    refine TA.take 6 rfl (by kernel_rfl) rfl (PQ.then_ (PQ.inB (PQ.then_ PQ.body))) rfl (Val.loadB 3 agg3 rfl rfl rfl) (fun W hO => hO) ?_
    obtain ⟨y1133, hy1134, h⟩ := bind_no h
    refine TA.eff 3 rfl (by kernel_rfl) rfl (TL.callV (Lin := [Blk b1 [.map (some b2), .map (some b3)] 83, Mp Try.prog 3 3 b2 a0_0_0, Mp Try.prog 3 3 b3 a0_1_0]) (args := [.pointer (some ⟨b1, 0, none⟩), .int .i64 a1.f2]) rfl rfl rfl hbd79 rfl rfl (fold_facts_held.calls (a0_0_0 := a0_0_0) (a0_1_0 := a0_1_0) (a1 := a1.f2) hy1134) rfl ?_)
    rintro _ _ _ _ ⟨rfl, rfl, rfl⟩
    refine TA.next (fun W hO => hO) ?_
    refine TA.take 8 rfl (by kernel_rfl) rfl (PQ.then_ (PQ.inB (PQ.then_ PQ.body))) rfl (Val.fieldAddrB Try.underlying30 rfl fsz3 rfl rfl rfl) (fun W hO => hO) ?_
    obtain ⟨y1135, hy1136, h⟩ := bind_no h
    refine TA.eff 7 rfl (by kernel_rfl) rfl (TL.callV (Lin := [Blk b1 [.map (some b2), .map (some b3)] 83, Mp Try.prog 3 3 b2 a0_0_0, Mp Try.prog 3 3 b3 a0_1_0]) (args := [.pointer (some ⟨b1, 0, none⟩), .int .i64 a1.f3]) rfl rfl rfl hbd79 rfl rfl (fold_facts_held.calls (a0_0_0 := a0_0_0) (a0_1_0 := a0_1_0) (a1 := a1.f3) hy1136) rfl ?_)
    rintro _ _ _ _ ⟨rfl, rfl, rfl⟩
    refine TA.next (fun W hO => hO) ?_
    refine TA.eff 9 rfl (by kernel_rfl) rfl (TL.store 3 (ds := [.int .i64 y1133]) (cs' := [.int .i64 a1.f0, .int .i64 a1.f1, .int .i64 y1133, .int .i64 a1.f3, .int .i64 a1.f4, .slice A4 a1.f5.length c5]) (L' := (Blk b1 [.map (some b2), .map (some b3)] 83 :: Mp Try.prog 3 3 b2 a0_0_0 :: Mp Try.prog 3 3 b3 a0_1_0 :: Blk b8 [.int .i64 a1.f0, .int .i64 a1.f1, .int .i64 y1133, .int .i64 a1.f3, .int .i64 a1.f4, .slice A4 a1.f5.length c5] 30 :: Blk b9 [.int .i64 0, .int .i64 0, .int .i64 0, .int .i64 0, .int .i64 0, .slice none 0 0] 30 :: L)) rfl fsz3 rfl rfl rfl rfl rfl (Nat.le_of_ble_eq_true rfl) rfl rfl ?_)
    refine TA.last rfl ?_
    refine TA.eff 10 rfl (by kernel_rfl) rfl (TO.val rfl rfl rfl (Val.fieldAddrB Try.underlying30 rfl fsz3 rfl rfl rfl) ?_)
    refine TA.last rfl ?_
    refine TA.eff 11 rfl (by kernel_rfl) rfl (TL.store 3 (ds := [.int .i64 y1135]) (cs' := [.int .i64 a1.f0, .int .i64 a1.f1, .int .i64 y1133, .int .i64 y1135, .int .i64 a1.f4, .slice A4 a1.f5.length c5]) (L' := (Blk b1 [.map (some b2), .map (some b3)] 83 :: Mp Try.prog 3 3 b2 a0_0_0 :: Mp Try.prog 3 3 b3 a0_1_0 :: Blk b8 [.int .i64 a1.f0, .int .i64 a1.f1, .int .i64 y1133, .int .i64 y1135, .int .i64 a1.f4, .slice A4 a1.f5.length c5] 30 :: Blk b9 [.int .i64 0, .int .i64 0, .int .i64 0, .int .i64 0, .int .i64 0, .slice none 0 0] 30 :: L)) rfl fsz3 rfl rfl rfl rfl rfl (Nat.le_of_ble_eq_true rfl) rfl rfl ?_)
    refine TA.last rfl ?_
    refine TA.done (by kernel_rfl) ?_
    exact fun a W hF hO => ⟨y1133, y1135, a1.f5, G, A4, c5, h, (Gd.le.refl _), hr6, hl7, hF.sub ⟨rfl, rfl, trivial⟩, hO.selT (Ls := [Blk b1 [.map (some b2), .map (some b3)] 83, Mp Try.prog 3 3 b2 a0_0_0, Mp Try.prog 3 3 b3 a0_1_0, Blk b8 [.int .i64 a1.f0, .int .i64 a1.f1, .int .i64 y1133, .int .i64 y1135, .int .i64 a1.f4, .slice A4 a1.f5.length c5] 30, Blk b9 [.int .i64 0, .int .i64 0, .int .i64 0, .int .i64 0, .int .i64 0, .slice none 0 0] 30]) [0, 1, 2, 3, 4] 5 rfl rfl rfl⟩
   ·
    refine TC.seq ?_
    refine TC.seq ?_
    refine TC.region ?_
    refine TL.cons (TO.val rfl rfl rfl (Val.cmp rfl rfl run_eql) ?_)
    refine TL.cons (TO.val rfl rfl rfl (Val.assign rfl) ?_)
    refine TL.nil ?_
    refine TQ.then_ ?_
    obtain ⟨j1140, hj1140, h⟩ := jn_no h
    refine TC.tail (fun a W => ∃ (x1139 : Bool), j1140 x1139 = some r ∧ Fr 54 a [(0, .pointer (some ⟨b1, 0, none⟩)), (3, .pointer (some ⟨b8, 0, none⟩)), (4, .pointer (some ⟨b9, 0, none⟩)), (8, .int .i64 a1.f0), (22, .bool x1139)] ∧ Own G (Blk b1 [.map (some b2), .map (some b3)] 83 :: Mp Try.prog 3 3 b2 a0_0_0 :: Mp Try.prog 3 3 b3 a0_1_0 :: Blk b8 [.int .i64 a1.f0, .int .i64 a1.f1, .int .i64 a1.f2, .int .i64 a1.f3, .int .i64 a1.f4, .slice A4 a1.f5.length c5] 30 :: Blk b9 [.int .i64 0, .int .i64 0, .int .i64 0, .int .i64 0, .int .i64 0, .slice none 0 0] 30 :: L) W) ?_ ?_
    ·
     rintro a W ⟨x1139, h, hF, hO⟩
     rw [hj1140] at h
     refine TQ.use ?_ hF hO
     clear hF hO
     refine TQ.then_ ?_
     refine TC.cond_b rfl h (fun hc1426 h => ?_) (fun hc1426 h => ?_)
     ·
      refine TC.region ?_
      refine TL.cons (TO.val rfl rfl rfl (Val.move rfl) ?_)
      refine TL.cons (TO.val rfl rfl rfl (Val.fieldAddrB Try.underlying30 rfl fsz3 rfl rfl rfl) ?_)
      refine TL.cons (TO.val rfl rfl rfl (Val.loadB 3 agg3 rfl rfl rfl) ?_)
      obtain ⟨y1427, hy1428, h⟩ := bind_no h
      refine TL.cons (TL.callV (Lin := [Blk b1 [.map (some b2), .map (some b3)] 83, Mp Try.prog 3 3 b2 a0_0_0, Mp Try.prog 3 3 b3 a0_1_0]) (args := [.pointer (some ⟨b1, 0, none⟩), .int .i64 a1.f2]) rfl rfl rfl hbd79 rfl rfl (fold_facts_held.calls (a0_0_0 := a0_0_0) (a0_1_0 := a0_1_0) (a1 := a1.f2) hy1428) rfl ?_)
      rintro _ _ _ _ ⟨rfl, rfl, rfl⟩
      refine TL.cons (TO.val rfl rfl rfl (Val.fieldAddrB Try.underlying30 rfl fsz3 rfl rfl rfl) ?_)
      refine TL.cons (TL.store 3 (ds := [.int .i64 y1427]) (cs' := [.int .i64 a1.f0, .int .i64 a1.f1, .int .i64 y1427, .int .i64 a1.f3, .int .i64 a1.f4, .slice A4 a1.f5.length c5]) (L' := (Blk b1 [.map (some b2), .map (some b3)] 83 :: Mp Try.prog 3 3 b2 a0_0_0 :: Mp Try.prog 3 3 b3 a0_1_0 :: Blk b8 [.int .i64 a1.f0, .int .i64 a1.f1, .int .i64 y1427, .int .i64 a1.f3, .int .i64 a1.f4, .slice A4 a1.f5.length c5] 30 :: Blk b9 [.int .i64 0, .int .i64 0, .int .i64 0, .int .i64 0, .int .i64 0, .slice none 0 0] 30 :: L)) rfl fsz3 rfl rfl rfl rfl rfl (Nat.le_of_ble_eq_true rfl) rfl rfl ?_)
      refine TL.nil ?_
      exact fun a W hF hO => ⟨y1427, a1.f3, a1.f5, G, A4, c5, h, (Gd.le.refl _), hr6, hl7, hF.sub ⟨rfl, rfl, trivial⟩, hO.selT (Ls := [Blk b1 [.map (some b2), .map (some b3)] 83, Mp Try.prog 3 3 b2 a0_0_0, Mp Try.prog 3 3 b3 a0_1_0, Blk b8 [.int .i64 a1.f0, .int .i64 a1.f1, .int .i64 y1427, .int .i64 a1.f3, .int .i64 a1.f4, .slice A4 a1.f5.length c5] 30, Blk b9 [.int .i64 0, .int .i64 0, .int .i64 0, .int .i64 0, .int .i64 0, .slice none 0 0] 30]) [0, 1, 2, 3, 4] 5 rfl rfl rfl⟩
     ·
      refine TC.seq ?_
      refine TC.region ?_
      refine TL.cons (TO.val rfl rfl rfl (Val.cmp rfl rfl run_eql) ?_)
      refine TL.cons (TO.val rfl rfl rfl (Val.assign rfl) ?_)
      refine TL.nil ?_
      refine TQ.then_ ?_
      refine TC.cond_p rfl h (fun hc1711 h => ?_) (fun hc1711 h => ?_)
      ·
       refine TC.seq ?_
       refine TC.region ?_
       refine TL.cons (TO.val rfl rfl rfl (Val.fieldAddrB Try.underlying30 rfl fsz22 rfl rfl rfl) ?_)
       refine TL.cons (TO.val rfl rfl rfl (Val.loadB 3 agg22 rfl rfl rfl) ?_)
       obtain ⟨y1712, hy1713, h⟩ := bind_no h
       refine TL.cons (TL.callV (Lin := []) (args := [.slice A4 a1.f5.length c5]) rfl rfl rfl hbd37 rfl rfl (slices_Clone_int_int.calls (a0 := a1.f5) hr6 hl7 hy1713) rfl ?_)
       rintro _ _ _ _ ⟨rfl, A1714, c1715, rfl, rfl⟩
       refine TL.cons (TO.val rfl rfl rfl (Val.fieldAddrB Try.underlying30 rfl fsz22 rfl rfl rfl) ?_)
       refine TL.cons (TL.store 4 (ds := [.slice A1714 y1712.length c1715]) (cs' := [.int .i64 a1.f0, .int .i64 a1.f1, .int .i64 a1.f2, .int .i64 a1.f3, .int .i64 a1.f4, .slice A1714 y1712.length c1715]) (L' := (Row (Kd.int .i64) 3 (.slice A1714 y1712.length c1715) y1712 :: Blk b1 [.map (some b2), .map (some b3)] 83 :: Mp Try.prog 3 3 b2 a0_0_0 :: Mp Try.prog 3 3 b3 a0_1_0 :: Blk b8 [.int .i64 a1.f0, .int .i64 a1.f1, .int .i64 a1.f2, .int .i64 a1.f3, .int .i64 a1.f4, .slice A1714 y1712.length c1715] 30 :: Blk b9 [.int .i64 0, .int .i64 0, .int .i64 0, .int .i64 0, .int .i64 0, .slice none 0 0] 30 :: L)) rfl fsz22 rfl rfl rfl rfl rfl (Nat.le_of_ble_eq_true rfl) rfl rfl ?_)
       refine TL.nil ?_
       refine TQ.then_ ?_
       refine TC.seq ?_
       refine TC.region ?_
       refine TL.cons (TO.val rfl rfl rfl (Val.fieldAddrB Try.underlying30 rfl fsz22 rfl rfl rfl) ?_)
       refine TL.cons (TO.val rfl rfl rfl (Val.loadB 4 agg22 rfl rfl rfl) ?_)
       refine TL.cons (TO.val rfl rfl rfl (Val.len Try.underlying22 rfl) ?_)
       refine TL.cons (TO.val rfl rfl rfl (Val.move rfl) ?_)
       refine TL.nil ?_
       refine TQ.then_ ?_
       obtain ⟨o1993, ho1993, ko1993⟩ := bind_no h
       clear h
       refine TC.tail (fun a W => ∃ (l1989 : (List Int)) (A1990 : Option Addr) (c1991 : Nat), l1989 = o1993 ∧ Fr 54 a [(3, .pointer (some ⟨b8, 0, none⟩)), (4, .pointer (some ⟨b9, 0, none⟩))] ∧ Own G (Blk b1 [.map (some b2), .map (some b3)] 83 :: Mp Try.prog 3 3 b2 a0_0_0 :: Mp Try.prog 3 3 b3 a0_1_0 :: Blk b8 [.int .i64 a1.f0, .int .i64 a1.f1, .int .i64 a1.f2, .int .i64 a1.f3, .int .i64 a1.f4, .slice A1990 l1989.length c1991] 30 :: Blk b9 [.int .i64 0, .int .i64 0, .int .i64 0, .int .i64 0, .int .i64 0, .slice none 0 0] 30 :: Row (Kd.int .i64) 3 (.slice A1990 l1989.length c1991) l1989 :: L) W) ?_ ?_
       ·
        rintro a W ⟨l1989, A1990, c1991, rfl, hF, hO⟩
        have h := ko1993
        clear ko1993 ho1993
        refine TQ.use ?_ hF hO
        clear hF hO
        refine TQ.sel (Ls := [Row (Kd.int .i64) 3 (.slice A1990 l1989.length c1991) l1989, Blk b1 [.map (some b2), .map (some b3)] 83, Mp Try.prog 3 3 b2 a0_0_0, Mp Try.prog 3 3 b3 a0_1_0, Blk b8 [.int .i64 a1.f0, .int .i64 a1.f1, .int .i64 a1.f2, .int .i64 a1.f3, .int .i64 a1.f4, .slice A1990 l1989.length c1991] 30, Blk b9 [.int .i64 0, .int .i64 0, .int .i64 0, .int .i64 0, .int .i64 0, .slice none 0 0] 30]) [5, 0, 1, 2, 3, 4] 6 rfl rfl rfl ?_
        refine TQ.share (fun G2059 e2060 hs2061 _ => ?_)
        have rd2062 : Rd G2059 (Kd.int .i64) A1990 l1989 := Rd.row hs2061
        have le2063 : l1989.length ≤ c1991 := Row.le hs2061
        exact fun a W hF hO => ⟨a1.f2, a1.f3, l1989, G2059, A1990, c1991, h, e2060, rd2062, le2063, hF.sub ⟨rfl, rfl, trivial⟩, hO.selT (Ls := [Blk b1 [.map (some b2), .map (some b3)] 83, Mp Try.prog 3 3 b2 a0_0_0, Mp Try.prog 3 3 b3 a0_1_0, Blk b8 [.int .i64 a1.f0, .int .i64 a1.f1, .int .i64 a1.f2, .int .i64 a1.f3, .int .i64 a1.f4, .slice A1990 l1989.length c1991] 30, Blk b9 [.int .i64 0, .int .i64 0, .int .i64 0, .int .i64 0, .int .i64 0, .slice none 0 0] 30]) [0, 1, 2, 3, 4] 5 rfl rfl rfl⟩
       ·
        refine TC.block ?_
        intro a W hF hO
        have hS : ∃ (l1919 : (List Int)) (x1924 : Int) (A1920 : Option Addr) (c1921 : Nat), fold_facts_replaced.l0 a0_0_0 a0_1_0 y1712 (y1712.length + 1) l1919 x1924 = some o1993 ∧ l1919.length = y1712.length ∧ Fr 54 a [(0, .pointer (some ⟨b1, 0, none⟩)), (3, .pointer (some ⟨b8, 0, none⟩)), (4, .pointer (some ⟨b9, 0, none⟩)), (38, .slice A1920 l1919.length c1921), (39, .int .i64 (y1712.length : Int)), (40, .int .i64 x1924)] ∧ Own G (Blk b1 [.map (some b2), .map (some b3)] 83 :: Mp Try.prog 3 3 b2 a0_0_0 :: Mp Try.prog 3 3 b3 a0_1_0 :: Blk b8 [.int .i64 a1.f0, .int .i64 a1.f1, .int .i64 a1.f2, .int .i64 a1.f3, .int .i64 a1.f4, .slice A1920 l1919.length c1921] 30 :: Blk b9 [.int .i64 0, .int .i64 0, .int .i64 0, .int .i64 0, .int .i64 0, .slice none 0 0] 30 :: Row (Kd.int .i64) 3 (.slice A1920 l1919.length c1921) l1919 :: L) W := by
         exact ⟨y1712, 0, A1714, c1715, ho1993, (by first | rfl | assumption | omega | (simp only [List.length_set]; first | rfl | assumption | omega)), hF.sub ⟨rfl, rfl, rfl, rfl, rfl, rfl, trivial⟩, hO.selT (Ls := [Blk b1 [.map (some b2), .map (some b3)] 83, Mp Try.prog 3 3 b2 a0_0_0, Mp Try.prog 3 3 b3 a0_1_0, Blk b8 [.int .i64 a1.f0, .int .i64 a1.f1, .int .i64 a1.f2, .int .i64 a1.f3, .int .i64 a1.f4, .slice A1714 y1712.length c1715] 30, Blk b9 [.int .i64 0, .int .i64 0, .int .i64 0, .int .i64 0, .int .i64 0, .slice none 0 0] 30, Row (Kd.int .i64) 3 (.slice A1714 y1712.length c1715) y1712]) [1, 2, 3, 4, 5, 0] 6 rfl rfl rfl⟩
        clear hF hO ho1993 ko1993
        refine TC.loop (fun n1994 a W => ∃ (l1919 : (List Int)) (x1924 : Int) (A1920 : Option Addr) (c1921 : Nat), fold_facts_replaced.l0 a0_0_0 a0_1_0 y1712 n1994 l1919 x1924 = some o1993 ∧ l1919.length = y1712.length ∧ Fr 54 a [(0, .pointer (some ⟨b1, 0, none⟩)), (3, .pointer (some ⟨b8, 0, none⟩)), (4, .pointer (some ⟨b9, 0, none⟩)), (38, .slice A1920 l1919.length c1921), (39, .int .i64 (y1712.length : Int)), (40, .int .i64 x1924)] ∧ Own G (Blk b1 [.map (some b2), .map (some b3)] 83 :: Mp Try.prog 3 3 b2 a0_0_0 :: Mp Try.prog 3 3 b3 a0_1_0 :: Blk b8 [.int .i64 a1.f0, .int .i64 a1.f1, .int .i64 a1.f2, .int .i64 a1.f3, .int .i64 a1.f4, .slice A1920 l1919.length c1921] 30 :: Blk b9 [.int .i64 0, .int .i64 0, .int .i64 0, .int .i64 0, .int .i64 0, .slice none 0 0] 30 :: Row (Kd.int .i64) 3 (.slice A1920 l1919.length c1921) l1919 :: L) W) ?_ ?_ hS
        ·
         rintro a W ⟨l1919, x1924, A1920, c1921, h, hl1923, hF, hO⟩
         exact none_no h
        ·
         clear hS
         rintro n1994 a W ⟨l1919, x1924, A1920, c1921, h, hl1923, hF, hO⟩
         rw [fold_facts_replaced.l0] at h
         refine TC.use ?_ hF hO
         clear hF hO
         refine TC.seq ?_
         refine TC.region ?_
         refine TL.cons (TO.val rfl rfl rfl (Val.cmp rfl rfl run_lss) ?_)
         refine TL.nil ?_
         refine TQ.then_ ?_
         refine TC.seq ?_
         refine TC.cond_p rfl h (fun hc2065 h => ?_) (fun hc2065 h => ?_)
         ·
          refine TC.skip ?_
          refine TQ.then_ ?_
          refine TC.seq ?_
          refine TC.block ?_
          refine TC.seq ?_
          refine TC.region ?_
          refine TL.cons (TO.val rfl rfl rfl (Val.move rfl) ?_)
          refine TK.sel (Ls := [Row (Kd.int .i64) 3 (.slice A1920 l1919.length c1921) l1919, Blk b1 [.map (some b2), .map (some b3)] 83, Mp Try.prog 3 3 b2 a0_0_0, Mp Try.prog 3 3 b3 a0_1_0, Blk b8 [.int .i64 a1.f0, .int .i64 a1.f1, .int .i64 a1.f2, .int .i64 a1.f3, .int .i64 a1.f4, .slice A1920 l1919.length c1921] 30, Blk b9 [.int .i64 0, .int .i64 0, .int .i64 0, .int .i64 0, .int .i64 0, .slice none 0 0] 30]) [5, 0, 1, 2, 3, 4] 6 rfl rfl rfl ?_
          refine TK.share (fun G2097 e2098 hs2099 hb2100 => ?_)
          have rd2101 : Rd G2097 (Kd.int .i64) A1920 l1919 := Rd.row hs2099
          have le2102 : l1919.length ≤ c1921 := Row.le hs2099
          obtain ⟨y2103, hx2104, h⟩ := bind_no h
          obtain ⟨ad2105, cs2111, hA2106, hi2107, hj2108, hcl2109, hK2110⟩ := Rd.at rd2101 hx2104
          obtain rfl := RdK.int hK2110
          refine TL.cons (TO.val rfl rfl rfl (Val.indexAddr Try.underlying22 fsz3 rfl hA2106 rfl hi2107 hj2108) ?_)
          refine TL.cons (TO.val rfl rfl rfl (Val.loadS agg3 rfl (hcl2109 0 _ rfl)) ?_)
          refine TL.cons (TO.val rfl rfl rfl (Val.assign rfl) ?_)
          refine TL.cons (TO.val rfl rfl rfl (Val.assign rfl) ?_)
          refine TL.nil ?_
          refine TQ.then_ ?_
          refine TC.regionAny [7] [0, 1, 2, 3, 4, 6] mixed (by kernel_rfl) ?_
          refine TA.take 0 rfl (by kernel_rfl) rfl (PQ.inB (PQ.then_ (PQ.then_ (PQ.inB (PQ.then_ (PQ.then_ (PQ.inB (PQ.then_ PQ.body)))))))) rfl (Val.fieldAddrB Try.underlying30 rfl fsz22 rfl rfl rfl) (fun W hO => hO) ?_
          refine TA.take 1 rfl (by kernel_rfl) rfl (PQ.inB (PQ.then_ (PQ.then_ (PQ.inB (PQ.then_ (PQ.then_ (PQ.inB (PQ.then_ PQ.body)))))))) rfl (Val.loadB 3 agg22 rfl rfl rfl) (fun W hO => hO) ?_
          refine TA.take 2 rfl (by kernel_rfl) rfl (PQ.inB (PQ.then_ (PQ.then_ (PQ.inB (PQ.then_ (PQ.then_ (PQ.inB (PQ.then_ PQ.body)))))))) rfl (Val.move rfl) (fun W hO => hO) ?_
          refine TA.take 3 rfl (by kernel_rfl) rfl (PQ.inB (PQ.then_ (PQ.then_ (PQ.inB (PQ.then_ (PQ.then_ (PQ.inB (PQ.then_ PQ.body)))))))) rfl (Val.move rfl) (fun W hO => hO) ?_
          refine TA.take 4 rfl (by kernel_rfl) rfl (PQ.inB (PQ.then_ (PQ.then_ (PQ.inB (PQ.then_ (PQ.then_ (PQ.inB (PQ.then_ PQ.body)))))))) rfl (Val.move rfl) (fun W hO => hO) ?_
          obtain ⟨y2120, hy2121, h⟩ := bind_no h
          refine TA.eff 5 rfl (by kernel_rfl) rfl (TL.callV (Lin := [Blk b1 [.map (some b2), .map (some b3)] 83, Mp Try.prog 3 3 b2 a0_0_0, Mp Try.prog 3 3 b3 a0_1_0]) (args := [.pointer (some ⟨b1, 0, none⟩), .int .i64 y2103]) rfl rfl rfl hbd79 rfl rfl (fold_facts_held.calls (a0_0_0 := a0_0_0) (a0_1_0 := a0_1_0) (a1 := y2103) hy2121) rfl ?_)
          rintro _ _ _ _ ⟨rfl, rfl, rfl⟩
          refine TA.next (fun W hO => hO) ?_
          obtain ⟨y2122, hy2123, h⟩ := bind_no h
          obtain ⟨b2124, hA2125, hi2126, hj2127⟩ := Row.openedS hs2099 hy2123
          refine TA.take 6 rfl (by kernel_rfl) rfl (PQ.inB (PQ.then_ (PQ.then_ (PQ.inB (PQ.then_ (PQ.then_ (PQ.inB (PQ.then_ PQ.body)))))))) rfl (Val.indexAddrW Try.underlying22 fsz3 rfl hA2125 rfl hi2126 hj2127) (fun W hO => hO) ?_
          refine TK.back hb2100 ?_
          refine TK.new (El.of (k := (Kd.int .i64)) (xv := y2120) (cs := [.int .i64 y2120]) (fun W B => rfl)) ?_
          refine TK.sel (Ls := [Row (Kd.int .i64) 3 (.slice A1920 l1919.length c1921) l1919, El (Kd.int .i64) y2120 [.int .i64 y2120], Blk b1 [.map (some b2), .map (some b3)] 83, Mp Try.prog 3 3 b2 a0_0_0, Mp Try.prog 3 3 b3 a0_1_0, Blk b8 [.int .i64 a1.f0, .int .i64 a1.f1, .int .i64 a1.f2, .int .i64 a1.f3, .int .i64 a1.f4, .slice A1920 l1919.length c1921] 30, Blk b9 [.int .i64 0, .int .i64 0, .int .i64 0, .int .i64 0, .int .i64 0, .slice none 0 0] 30]) [1, 0, 2, 3, 4, 5, 6] 7 rfl rfl rfl ?_
          refine TA.eff 7 rfl (by kernel_rfl) rfl (TL.storeE (Kd.int .i64) (xs := l1919) (xv := y2120) (ds := [.int .i64 y2120]) rfl fsz3 hA2125 hy2123 rfl rfl rfl rfl (Nat.le_of_ble_eq_true rfl) (wholeM rfl) ?_)
          refine TA.last rfl ?_
          rw [show (l1919.length : Nat) = (l1919.set x1924.toNat y2120).length from by simp only [List.length_set]]
          refine TA.done (by kernel_rfl) ?_
          refine TQ.inB ?_
          refine TQ.then_ ?_
          refine TC.region ?_
          refine TL.cons (TO.val rfl rfl rfl (Val.cmp rfl rfl run_add) ?_)
          refine TL.cons (TO.val rfl rfl rfl (Val.move rfl) ?_)
          refine TL.nil ?_
          exact fun a W hF hO => ⟨(l1919.set x1924.toNat y2120), IntKind.i64.wrap (x1924 + 1), A1920, c1921, h, (by first | rfl | assumption | omega | (simp only [List.length_set]; first | rfl | assumption | omega)), hF.sub ⟨rfl, rfl, rfl, rfl, rfl, rfl, trivial⟩, hO.selT (Ls := [Blk b1 [.map (some b2), .map (some b3)] 83, Mp Try.prog 3 3 b2 a0_0_0, Mp Try.prog 3 3 b3 a0_1_0, Blk b8 [.int .i64 a1.f0, .int .i64 a1.f1, .int .i64 a1.f2, .int .i64 a1.f3, .int .i64 a1.f4, .slice A1920 (l1919.set x1924.toNat y2120).length c1921] 30, Blk b9 [.int .i64 0, .int .i64 0, .int .i64 0, .int .i64 0, .int .i64 0, .slice none 0 0] 30, Row (Kd.int .i64) 3 (.slice A1920 (l1919.set x1924.toNat y2120).length c1921) (l1919.set x1924.toNat y2120)]) [1, 2, 3, 4, 5, 0] 6 rfl rfl rfl⟩
         ·
          refine TC.exit ?_
          refine TQ.thenX ?_
          refine TQ.thenX ?_
          refine TQ.inBX ?_
          exact fun a W hF hO => ⟨l1919, A1920, c1921, Option.some.inj h, hF.sub ⟨rfl, rfl, trivial⟩, hO.selT (Ls := [Blk b1 [.map (some b2), .map (some b3)] 83, Mp Try.prog 3 3 b2 a0_0_0, Mp Try.prog 3 3 b3 a0_1_0, Blk b8 [.int .i64 a1.f0, .int .i64 a1.f1, .int .i64 a1.f2, .int .i64 a1.f3, .int .i64 a1.f4, .slice A1920 l1919.length c1921] 30, Blk b9 [.int .i64 0, .int .i64 0, .int .i64 0, .int .i64 0, .int .i64 0, .slice none 0 0] 30, Row (Kd.int .i64) 3 (.slice A1920 l1919.length c1921) l1919]) [0, 1, 2, 3, 4, 5] 6 rfl rfl rfl⟩
      ·
       refine TC.skip ?_
       exact fun a W hF hO => ⟨a1.f2, a1.f3, a1.f5, G, A4, c5, h, (Gd.le.refl _), hr6, hl7, hF.sub ⟨rfl, rfl, trivial⟩, hO.selT (Ls := [Blk b1 [.map (some b2), .map (some b3)] 83, Mp Try.prog 3 3 b2 a0_0_0, Mp Try.prog 3 3 b3 a0_1_0, Blk b8 [.int .i64 a1.f0, .int .i64 a1.f1, .int .i64 a1.f2, .int .i64 a1.f3, .int .i64 a1.f4, .slice A4 a1.f5.length c5] 30, Blk b9 [.int .i64 0, .int .i64 0, .int .i64 0, .int .i64 0, .int .i64 0, .slice none 0 0] 30]) [0, 1, 2, 3, 4] 5 rfl rfl rfl⟩
    ·
     refine TC.cond_p rfl h (fun hc2128 h => ?_) (fun hc2128 h => ?_)
     ·
      refine TC.skip ?_
      exact fun a W hF hO => ⟨decide (a1.f0 = 3), h, hF.sub ⟨rfl, rfl, rfl, rfl, rfl, trivial⟩, hO.selT (Ls := [Blk b1 [.map (some b2), .map (some b3)] 83, Mp Try.prog 3 3 b2 a0_0_0, Mp Try.prog 3 3 b3 a0_1_0, Blk b8 [.int .i64 a1.f0, .int .i64 a1.f1, .int .i64 a1.f2, .int .i64 a1.f3, .int .i64 a1.f4, .slice A4 a1.f5.length c5] 30, Blk b9 [.int .i64 0, .int .i64 0, .int .i64 0, .int .i64 0, .int .i64 0, .slice none 0 0] 30]) [0, 1, 2, 3, 4] 5 rfl rfl rfl⟩
     ·
      refine TC.seq ?_
      refine TC.region ?_
      refine TL.cons (TO.val rfl rfl rfl (Val.cmp rfl rfl run_eql) ?_)
      refine TL.cons (TO.val rfl rfl rfl (Val.assign rfl) ?_)
      refine TL.nil ?_
      refine TQ.then_ ?_
      refine TC.cond_p rfl h (fun hc2130 h => ?_) (fun hc2130 h => ?_)
      ·
       refine TC.skip ?_
       exact fun a W hF hO => ⟨decide (a1.f0 = 4), h, hF.sub ⟨rfl, rfl, rfl, rfl, rfl, trivial⟩, hO.selT (Ls := [Blk b1 [.map (some b2), .map (some b3)] 83, Mp Try.prog 3 3 b2 a0_0_0, Mp Try.prog 3 3 b3 a0_1_0, Blk b8 [.int .i64 a1.f0, .int .i64 a1.f1, .int .i64 a1.f2, .int .i64 a1.f3, .int .i64 a1.f4, .slice A4 a1.f5.length c5] 30, Blk b9 [.int .i64 0, .int .i64 0, .int .i64 0, .int .i64 0, .int .i64 0, .slice none 0 0] 30]) [0, 1, 2, 3, 4] 5 rfl rfl rfl⟩
      ·
       refine TC.region ?_
       refine TL.cons (TO.val rfl rfl rfl (Val.cmp rfl rfl run_eql) ?_)
       refine TL.cons (TO.val rfl rfl rfl (Val.assign rfl) ?_)
       refine TL.nil ?_
       exact fun a W hF hO => ⟨decide (a1.f0 = 9), h, hF.sub ⟨rfl, rfl, rfl, rfl, rfl, trivial⟩, hO.selT (Ls := [Blk b1 [.map (some b2), .map (some b3)] 83, Mp Try.prog 3 3 b2 a0_0_0, Mp Try.prog 3 3 b3 a0_1_0, Blk b8 [.int .i64 a1.f0, .int .i64 a1.f1, .int .i64 a1.f2, .int .i64 a1.f3, .int .i64 a1.f4, .slice A4 a1.f5.length c5] 30, Blk b9 [.int .i64 0, .int .i64 0, .int .i64 0, .int .i64 0, .int .i64 0, .slice none 0 0] 30]) [0, 1, 2, 3, 4] 5 rfl rfl rfl⟩
 ·
  refine TC.cond_p rfl h (fun hc2131 h => ?_) (fun hc2131 h => ?_)
  ·
   refine TC.skip ?_
   exact fun a W hF hO => ⟨decide (a1.f0 = 2), h, hF.sub ⟨rfl, rfl, rfl, rfl, rfl, trivial⟩, hO.selT (Ls := [Blk b1 [.map (some b2), .map (some b3)] 83, Mp Try.prog 3 3 b2 a0_0_0, Mp Try.prog 3 3 b3 a0_1_0, Blk b8 [.int .i64 a1.f0, .int .i64 a1.f1, .int .i64 a1.f2, .int .i64 a1.f3, .int .i64 a1.f4, .slice A4 a1.f5.length c5] 30, Blk b9 [.int .i64 0, .int .i64 0, .int .i64 0, .int .i64 0, .int .i64 0, .slice none 0 0] 30]) [2, 3, 4, 1, 0] 5 rfl rfl rfl⟩
  ·
   refine TC.region ?_
   refine TL.cons (TO.val rfl rfl rfl (Val.cmp rfl rfl run_eql) ?_)
   refine TL.cons (TO.val rfl rfl rfl (Val.assign rfl) ?_)
   refine TL.nil ?_
   exact fun a W hF hO => ⟨decide (a1.f0 = 5), h, hF.sub ⟨rfl, rfl, rfl, rfl, rfl, trivial⟩, hO.selT (Ls := [Blk b1 [.map (some b2), .map (some b3)] 83, Mp Try.prog 3 3 b2 a0_0_0, Mp Try.prog 3 3 b3 a0_1_0, Blk b8 [.int .i64 a1.f0, .int .i64 a1.f1, .int .i64 a1.f2, .int .i64 a1.f3, .int .i64 a1.f4, .slice A4 a1.f5.length c5] 30, Blk b9 [.int .i64 0, .int .i64 0, .int .i64 0, .int .i64 0, .int .i64 0, .slice none 0 0] 30]) [2, 3, 4, 1, 0] 5 rfl rfl rfl⟩
end Go.Proofs.Ytmacdhkfgoahcaa.Sy
set_option linter.unusedVariables false
set_option linter.unusedSimpArgs false
set_option maxRecDepth 100000
set_option maxHeartbeats 4000000
namespace Go.Proofs.Ytmacdhkfgoahcaa.Sy
open Go Go.RowKit Go.Proofs.YtmacdhkfgoahcaaW.PrintWords 
def code_Sets.f (a0 : S30) : Option Int := (code_shapeOf.f a0.f0).bind fun (y6 : (S89 × Bool)) => (if (!y6.1.f0) = true then some 0 else some a0.f1)
def code_Sets.post (G : Gd)  (r : Int) (v : Value) (G' : Gd) (Lr : List Ch) : Prop := G = G' ∧ v = .int .i64 r ∧ Lr = []
theorem code_Sets.calls {G : Gd} {r : Int} {a0 : S30} {A1 : Option Addr} {c2 : Nat} (hr3 : Rd G (Kd.int .i64) A1 a0.f5) (hl4 : a0.f5.length ≤ c2) (h : code_Sets.f a0 = some r) : Fn Try.prog 31 G [] [.agg #[.int .i64 a0.f0, .int .i64 a0.f1, .int .i64 a0.f2, .int .i64 a0.f3, .int .i64 a0.f4, .slice A1 a0.f5.length c2]] (code_Sets.post G  r) := by
 refine Fn.intro (e := [(0, .agg #[.int .i64 a0.f0, .int .i64 a0.f1, .int .i64 a0.f2, .int .i64 a0.f3, .int .i64 a0.f4, .slice A1 a0.f5.length c2])]) 16 Try.func31 rfl Try.ntmps31 rfl rfl (Nat.le_of_ble_eq_true rfl) (fun L => ?_)
 unfold code_Sets.f at h
 refine TC.seq ?_
 refine TC.region ?_
 refine TL.cons (TL.box (cs := [.int .i64 a0.f0, .int .i64 a0.f1, .int .i64 a0.f2, .int .i64 a0.f3, .int .i64 a0.f4, .slice A1 a0.f5.length c2]) rfl rfl rfl rfl (fun b5 => ?_))
 refine TL.cons (TO.val rfl rfl rfl (Val.assign rfl) ?_)
 refine TL.nil ?_
 refine TQ.then_ ?_
 refine TC.seq ?_
 refine TC.seq ?_
 refine TC.region ?_
 refine TL.cons (TO.val rfl rfl rfl (Val.fieldAddrB Try.underlying30 rfl fsz3 rfl rfl rfl) ?_)
 refine TL.cons (TO.val rfl rfl rfl (Val.loadB 0 agg3 rfl rfl rfl) ?_)
 obtain ⟨y6, hy7, h⟩ := bind_no h
 refine TL.cons (TL.callV (Lin := []) (args := [.int .i64 a0.f0]) rfl rfl rfl hbd61 rfl rfl (code_shapeOf.calls (a0 := a0.f0) hy7) rfl ?_)
 rintro _ _ _ _ ⟨rfl, rfl, rfl⟩
 refine TL.cons (TO.val rfl rfl rfl (Val.move rfl) ?_)
 refine TL.cons (TO.val rfl rfl rfl (Val.extract rfl rfl) ?_)
 refine TL.cons (TO.val rfl rfl rfl (Val.extract rfl rfl) ?_)
 refine TL.cons (TL.alloc (cs := [.bool false, .bool false, .bool false, .bool false]) rfl rfl zr89 rfl (fun b8 => ?_))
 refine TL.cons (TL.store 0 (ds := [.bool y6.1.f0, .bool y6.1.f1, .bool y6.1.f2, .bool y6.1.f3]) (cs' := [.bool y6.1.f0, .bool y6.1.f1, .bool y6.1.f2, .bool y6.1.f3]) (L' := (Blk b8 [.bool y6.1.f0, .bool y6.1.f1, .bool y6.1.f2, .bool y6.1.f3] 89 :: Blk b5 [.int .i64 a0.f0, .int .i64 a0.f1, .int .i64 a0.f2, .int .i64 a0.f3, .int .i64 a0.f4, .slice A1 a0.f5.length c2] 30 :: L)) rfl fsz89 rfl rfl rfl rfl rfl (Nat.le_of_ble_eq_true rfl) rfl rfl ?_)
 refine TL.cons (TO.val rfl rfl rfl (Val.assign rfl) ?_)
 refine TL.nil ?_
 refine TQ.then_ ?_
 refine TC.seq ?_
 refine TC.region ?_
 refine TL.cons (TO.val rfl rfl rfl (Val.fieldAddrB Try.underlying89 rfl fsz4 rfl rfl rfl) ?_)
 refine TL.cons (TO.val rfl rfl rfl (Val.loadB 0 agg4 rfl rfl rfl) ?_)
 refine TL.cons (TO.val rfl rfl rfl (Val.not_ rfl) ?_)
 refine TL.nil ?_
 refine TQ.then_ ?_
 refine TC.cond_b rfl h (fun hc10 h => ?_) (fun hc10 h => ?_)
 ·
  refine TC.seq ?_
  refine TC.region ?_
  refine TL.cons (TO.val rfl rfl rfl (Val.assign rfl) ?_)
  refine TL.nil ?_
  refine TQ.then_ ?_
  refine TC.ret ?_
  refine TQ.thenR ?_
  obtain rfl := Option.some.inj h
  exact TQ.fin (.inl rfl) rfl Try.results31 (.tmp rfl .nil) rfl (FRel.mk (Ls := []) [] 2 (Gd.le.refl _) rfl rfl rfl ⟨rfl, rfl, rfl⟩)
 ·
  refine TC.skip ?_
  refine TQ.then_ ?_
  refine TC.seq ?_
  refine TC.region ?_
  refine TL.cons (TO.val rfl rfl rfl (Val.fieldAddrB Try.underlying30 rfl fsz3 rfl rfl rfl) ?_)
  refine TL.cons (TO.val rfl rfl rfl (Val.loadB 1 agg3 rfl rfl rfl) ?_)
  refine TL.cons (TO.val rfl rfl rfl (Val.assign rfl) ?_)
  refine TL.nil ?_
  refine TQ.then_ ?_
  refine TC.ret ?_
  obtain rfl := Option.some.inj h
  exact TQ.fin (.inl rfl) rfl Try.results31 (.tmp rfl .nil) rfl (FRel.mk (Ls := []) [] 2 (Gd.le.refl _) rfl rfl rfl ⟨rfl, rfl, rfl⟩)
end Go.Proofs.Ytmacdhkfgoahcaa.Sy
set_option linter.unusedVariables false
set_option linter.unusedSimpArgs false
set_option maxRecDepth 100000
set_option maxHeartbeats 4000000
namespace Go.Proofs.Ytmacdhkfgoahcaa.Sy
open Go Go.RowKit Go.Proofs.YtmacdhkfgoahcaaW.PrintWords 
def fold_facts_learn.f (a0_0_0 : MpS) (a0_1_0 : MpS) (a1 : S30) : Option (MpS × MpS) := (code_Sets.f a1).bind fun (y9 : Int) => (if y9 = 0 then some (a0_0_0, a0_1_0) else (if wfi y9 then (if wfi y9 then (if a1.f0 = 1 then (if (mdel a0_0_0 y9).1 < 17592186044416 ∧ wfi y9 ∧ wfi a1.f4 then some ((mput (mdel a0_0_0 y9) y9 a1.f4), (mdelf (mdel a0_1_0 y9) (fun _ v => decide (v = y9)))) else none) else jn (γ := (MpS × MpS)) (fun (x72 : Bool) => (if x72 = true then (if (mdelf (mdel a0_1_0 y9) (fun _ v => decide (v = y9))).1 < 17592186044416 ∧ wfi y9 ∧ wfi a1.f2 then some ((mdel a0_0_0 y9), (mput (mdelf (mdel a0_1_0 y9) (fun _ v => decide (v = y9))) y9 a1.f2)) else none) else some ((mdel a0_0_0 y9), (mdelf (mdel a0_1_0 y9) (fun _ v => decide (v = y9)))))) (fun (j73 : (Bool → Option (MpS × MpS))) => (if a1.f0 = 3 then j73 (!decide (a1.f2 = y9)) else j73 false))) else none) else none))
def fold_facts_learn.post (G : Gd) (b1 : Nat) (b2 : Nat) (b3 : Nat) (A4 : Option Addr) (c5 : Nat) (a0_0_0 : MpS) (a0_1_0 : MpS) (a1 : S30) (r : (MpS × MpS)) (v : Value) (G' : Gd) (Lr : List Ch) : Prop := G = G' ∧ v = .tuple #[] ∧ Lr = [Blk b1 [.map (some b2), .map (some b3)] 83, Mp Try.prog 3 3 b2 r.1, Mp Try.prog 3 3 b3 r.2]
theorem fold_facts_learn.calls {G : Gd} {r : (MpS × MpS)} {a0_0_0 : MpS} {a0_1_0 : MpS} {a1 : S30} {b1 : Nat} {b2 : Nat} {b3 : Nat} {A4 : Option Addr} {c5 : Nat} (hr6 : Rd G (Kd.int .i64) A4 a1.f5) (hl7 : a1.f5.length ≤ c5) (h : fold_facts_learn.f a0_0_0 a0_1_0 a1 = some r) : Fn Try.prog 56 G [Blk b1 [.map (some b2), .map (some b3)] 83, Mp Try.prog 3 3 b2 a0_0_0, Mp Try.prog 3 3 b3 a0_1_0] [.pointer (some ⟨b1, 0, none⟩), .agg #[.int .i64 a1.f0, .int .i64 a1.f1, .int .i64 a1.f2, .int .i64 a1.f3, .int .i64 a1.f4, .slice A4 a1.f5.length c5]] (fold_facts_learn.post G b1 b2 b3 A4 c5 a0_0_0 a0_1_0 a1 r) := by
 refine Fn.intro (e := [(0, .pointer (some ⟨b1, 0, none⟩)), (1, .agg #[.int .i64 a1.f0, .int .i64 a1.f1, .int .i64 a1.f2, .int .i64 a1.f3, .int .i64 a1.f4, .slice A4 a1.f5.length c5])]) 53 Try.func56 rfl Try.ntmps56 rfl rfl (Nat.le_of_ble_eq_true rfl) (fun L => ?_)
 unfold fold_facts_learn.f at h
 refine TC.seq ?_
 refine TC.region ?_
 refine TL.cons (TL.box (cs := [.int .i64 a1.f0, .int .i64 a1.f1, .int .i64 a1.f2, .int .i64 a1.f3, .int .i64 a1.f4, .slice A4 a1.f5.length c5]) rfl rfl rfl rfl (fun b8 => ?_))
 refine TL.nil ?_
 refine TQ.then_ ?_
 refine TC.seq ?_
 refine TC.region ?_
 refine TL.cons (TO.val rfl rfl rfl (Val.loadsB 0 (cs := [.int .i64 a1.f0, .int .i64 a1.f1, .int .i64 a1.f2, .int .i64 a1.f3, .int .i64 a1.f4, .slice A4 a1.f5.length c5]) agg30 fsz30 rfl rfl rfl rfl) ?_)
 obtain ⟨y9, hy10, h⟩ := bind_no h
 refine TL.cons (TL.callV (Lin := []) (args := [.agg #[.int .i64 a1.f0, .int .i64 a1.f1, .int .i64 a1.f2, .int .i64 a1.f3, .int .i64 a1.f4, .slice A4 a1.f5.length c5]]) rfl rfl rfl hbd31 rfl rfl (code_Sets.calls (a0 := a1) hr6 hl7 hy10) rfl ?_)
 rintro _ _ _ _ ⟨rfl, rfl, rfl⟩
 refine TL.cons (TL.alloc (cs := [.int .i64 0]) rfl rfl zr3 rfl (fun b11 => ?_))
 refine TL.cons (TL.store 0 (ds := [.int .i64 y9]) (cs' := [.int .i64 y9]) (L' := (Blk b11 [.int .i64 y9] 3 :: Blk b8 [.int .i64 a1.f0, .int .i64 a1.f1, .int .i64 a1.f2, .int .i64 a1.f3, .int .i64 a1.f4, .slice A4 a1.f5.length c5] 30 :: Blk b1 [.map (some b2), .map (some b3)] 83 :: Mp Try.prog 3 3 b2 a0_0_0 :: Mp Try.prog 3 3 b3 a0_1_0 :: L)) rfl fsz3 rfl rfl rfl rfl rfl (Nat.le_of_ble_eq_true rfl) rfl rfl ?_)
 refine TL.nil ?_
 refine TQ.then_ ?_
 refine TC.seq ?_
 refine TC.seq ?_
 refine TC.region ?_
 refine TL.cons (TO.val rfl rfl rfl (Val.loadB 0 agg3 rfl rfl rfl) ?_)
 refine TL.cons (TO.val rfl rfl rfl (Val.cmp rfl rfl run_eql) ?_)
 refine TL.nil ?_
 refine TQ.then_ ?_
 refine TC.cond_p rfl h (fun hc13 h => ?_) (fun hc13 h => ?_)
 ·
  refine TC.ret ?_
  refine TQ.thenR ?_
  obtain rfl := Option.some.inj h
  exact TQ.fin (.inl rfl) rfl Try.results56 .nil rfl (FRel.mk (Ls := [Blk b1 [.map (some b2), .map (some b3)] 83, Mp Try.prog 3 3 b2 a0_0_0, Mp Try.prog 3 3 b3 a0_1_0]) [2, 3, 4] 5 (Gd.le.refl _) rfl rfl rfl ⟨rfl, rfl, rfl⟩)
 ·
  refine TC.skip ?_
  refine TQ.then_ ?_
  refine TC.seq ?_
  refine TC.regionAny [5] [0, 1, 2, 3, 4] mixed (by kernel_rfl) ?_
  refine TA.take 0 rfl (by kernel_rfl) rfl (PQ.then_ PQ.body) rfl (Val.move rfl) (fun W hO => hO) ?_
  refine TA.take 1 rfl (by kernel_rfl) rfl (PQ.then_ PQ.body) rfl (Val.nilCheck rfl) (fun W hO => hO) ?_
  refine TA.take 2 rfl (by kernel_rfl) rfl (PQ.then_ PQ.body) rfl (Val.fieldAddrB Try.underlying83 rfl fsz81 rfl rfl rfl) (fun W hO => hO) ?_
  refine TA.take 3 rfl (by kernel_rfl) rfl (PQ.then_ PQ.body) rfl (Val.loadB 2 agg81 rfl rfl rfl) (fun W hO => hO) ?_
  refine TA.take 4 rfl (by kernel_rfl) rfl (PQ.then_ PQ.body) rfl (Val.loadB 0 agg3 rfl rfl rfl) (fun W hO => hO) ?_
  obtain ⟨hz15, h⟩ := ite_no h
  refine TA.eff 5 rfl (by kernel_rfl) rfl (TL.mapDelete 3 (L' := (Blk b11 [.int .i64 y9] 3 :: Blk b8 [.int .i64 a1.f0, .int .i64 a1.f1, .int .i64 a1.f2, .int .i64 a1.f3, .int .i64 a1.f4, .slice A4 a1.f5.length c5] 30 :: Blk b1 [.map (some b2), .map (some b3)] 83 :: Mp Try.prog 3 3 b2 (mdel a0_0_0 y9) :: Mp Try.prog 3 3 b3 a0_1_0 :: L)) rfl Try.underlying81 Try.underlying3 rfl rfl rfl rfl hz15 ?_)
  refine TA.last rfl ?_
  refine TA.done (by kernel_rfl) ?_
  refine TQ.then_ ?_
  refine TC.seq ?_
  refine TC.regionAny [5] [0, 1, 2, 3, 4] mixed (by kernel_rfl) ?_
  refine TA.take 0 rfl (by kernel_rfl) rfl (PQ.then_ PQ.body) rfl (Val.move rfl) (fun W hO => hO) ?_
  refine TA.take 1 rfl (by kernel_rfl) rfl (PQ.then_ PQ.body) rfl (Val.nilCheck rfl) (fun W hO => hO) ?_
  refine TA.take 2 rfl (by kernel_rfl) rfl (PQ.then_ PQ.body) rfl (Val.fieldAddrB Try.underlying83 rfl fsz80 rfl rfl rfl) (fun W hO => hO) ?_
  refine TA.take 3 rfl (by kernel_rfl) rfl (PQ.then_ PQ.body) rfl (Val.loadB 2 agg80 rfl rfl rfl) (fun W hO => hO) ?_
  refine TA.take 4 rfl (by kernel_rfl) rfl (PQ.then_ PQ.body) rfl (Val.loadB 0 agg3 rfl rfl rfl) (fun W hO => hO) ?_
  obtain ⟨hz17, h⟩ := ite_no h
  refine TA.eff 5 rfl (by kernel_rfl) rfl (TL.mapDelete 4 (L' := (Blk b11 [.int .i64 y9] 3 :: Blk b8 [.int .i64 a1.f0, .int .i64 a1.f1, .int .i64 a1.f2, .int .i64 a1.f3, .int .i64 a1.f4, .slice A4 a1.f5.length c5] 30 :: Blk b1 [.map (some b2), .map (some b3)] 83 :: Mp Try.prog 3 3 b2 (mdel a0_0_0 y9) :: Mp Try.prog 3 3 b3 (mdel a0_1_0 y9) :: L)) rfl Try.underlying80 Try.underlying3 rfl rfl rfl rfl hz17 ?_)
  refine TA.last rfl ?_
  refine TA.done (by kernel_rfl) ?_
  refine TQ.then_ ?_
  refine TC.seq ?_
  refine TC.region ?_
  refine TL.cons (TO.val rfl rfl rfl (Val.move rfl) ?_)
  refine TL.cons (TO.val rfl rfl rfl (Val.nilCheck rfl) ?_)
  refine TL.cons (TO.val rfl rfl rfl (Val.fieldAddrB Try.underlying83 rfl fsz80 rfl rfl rfl) ?_)
  refine TL.cons (TO.val rfl rfl rfl (Val.loadB 2 agg80 rfl rfl rfl) ?_)
  refine TL.cons (TO.val rfl rfl rfl (Val.makeFunc (xs := []) (ys := [.pointer (some ⟨b11, 0, none⟩)]) rfl rfl) ?_)
  refine TK.sel (Ls := [Mp Try.prog 3 3 b3 (mdel a0_1_0 y9), Blk b11 [.int .i64 y9] 3, Blk b8 [.int .i64 a1.f0, .int .i64 a1.f1, .int .i64 a1.f2, .int .i64 a1.f3, .int .i64 a1.f4, .slice A4 a1.f5.length c5] 30, Blk b1 [.map (some b2), .map (some b3)] 83, Mp Try.prog 3 3 b2 (mdel a0_0_0 y9)]) [4, 0, 1, 2, 3] 5 rfl rfl rfl ?_
  refine TL.cons (TL.callV (Lin := [Mp Try.prog 3 3 b3 (mdel a0_1_0 y9), Blk b11 [.int .i64 y9] 3]) (args := [.map (some b3), .func (.func 81) #[] #[.pointer (some ⟨b11, 0, none⟩)]]) rfl rfl rfl hbd80 rfl rfl fold_del rfl ?_)
  rintro _ _ _ _ ⟨rfl, rfl, rfl⟩
  refine TL.nil ?_
  refine TQ.then_ ?_
  refine TC.block ?_
  refine TC.seq ?_
  refine TC.region ?_
  refine TL.cons (TO.val rfl rfl rfl (Val.fieldAddrB Try.underlying30 rfl fsz3 rfl rfl rfl) ?_)
  refine TL.cons (TO.val rfl rfl rfl (Val.loadB 2 agg3 rfl rfl rfl) ?_)
  refine TL.cons (TO.val rfl rfl rfl (Val.cmp rfl rfl run_eql) ?_)
  refine TL.cons (TO.val rfl rfl rfl (Val.assign rfl) ?_)
  refine TL.nil ?_
  refine TQ.then_ ?_
  refine TC.cond_p rfl h (fun hc66 h => ?_) (fun hc66 h => ?_)
  ·
   refine TC.regionAny [7] [0, 1, 2, 3, 4, 5, 6] mixed (by kernel_rfl) ?_
   refine TA.take 0 rfl (by kernel_rfl) rfl (PQ.inB PQ.body) rfl (Val.move rfl) (fun W hO => hO) ?_
   refine TA.take 1 rfl (by kernel_rfl) rfl (PQ.inB PQ.body) rfl (Val.nilCheck rfl) (fun W hO => hO) ?_
   refine TA.take 2 rfl (by kernel_rfl) rfl (PQ.inB PQ.body) rfl (Val.fieldAddrB Try.underlying83 rfl fsz81 rfl rfl rfl) (fun W hO => hO) ?_
   refine TA.take 3 rfl (by kernel_rfl) rfl (PQ.inB PQ.body) rfl (Val.loadB 3 agg81 rfl rfl rfl) (fun W hO => hO) ?_
   refine TA.take 4 rfl (by kernel_rfl) rfl (PQ.inB PQ.body) rfl (Val.loadB 1 agg3 rfl rfl rfl) (fun W hO => hO) ?_
   refine TA.take 5 rfl (by kernel_rfl) rfl (PQ.inB PQ.body) rfl (Val.fieldAddrB Try.underlying30 rfl fsz3 rfl rfl rfl) (fun W hO => hO) ?_
   refine TA.take 6 rfl (by kernel_rfl) rfl (PQ.inB PQ.body) rfl (Val.loadB 2 agg3 rfl rfl rfl) (fun W hO => hO) ?_
   obtain ⟨hz68, h⟩ := ite_no h
   refine TA.eff 7 rfl (by kernel_rfl) rfl (TL.mapUpdate 4 (L' := (Mp Try.prog 3 3 b3 (mdelf (mdel a0_1_0 y9) (fun _ v => decide (v = y9))) :: Blk b11 [.int .i64 y9] 3 :: Blk b8 [.int .i64 a1.f0, .int .i64 a1.f1, .int .i64 a1.f2, .int .i64 a1.f3, .int .i64 a1.f4, .slice A4 a1.f5.length c5] 30 :: Blk b1 [.map (some b2), .map (some b3)] 83 :: Mp Try.prog 3 3 b2 (mput (mdel a0_0_0 y9) y9 a1.f4) :: L)) rfl Try.underlying81 Try.underlying3 Try.underlying3 rfl rfl rfl rfl rfl hz68 ?_)
   refine TA.last rfl ?_
   refine TA.done (by kernel_rfl) ?_
   refine TQ.inB ?_
   obtain rfl := Option.some.inj h
   exact TQ.fin (.inr rfl) rfl Try.results56 .nil rfl (FRel.mk (Ls := [Blk b1 [.map (some b2), .map (some b3)] 83, Mp Try.prog 3 3 b2 (mput (mdel a0_0_0 y9) y9 a1.f4), Mp Try.prog 3 3 b3 (mdelf (mdel a0_1_0 y9) (fun _ v => decide (v = y9)))]) [3, 4, 0] 5 (Gd.le.refl _) rfl rfl rfl ⟨rfl, rfl, rfl⟩)
  ·
   refine TC.seq ?_
   obtain ⟨j73, hj73, h⟩ := jn_no h
   refine TC.tail (fun a W => ∃ (x72 : Bool), j73 x72 = some r ∧ Fr 53 a [(0, .pointer (some ⟨b1, 0, none⟩)), (3, .pointer (some ⟨b8, 0, none⟩)), (4, .pointer (some ⟨b11, 0, none⟩)), (36, .bool x72)] ∧ Own G (Blk b1 [.map (some b2), .map (some b3)] 83 :: Blk b11 [.int .i64 y9] 3 :: Mp Try.prog 3 3 b2 (mdel a0_0_0 y9) :: Mp Try.prog 3 3 b3 (mdelf (mdel a0_1_0 y9) (fun _ v => decide (v = y9))) :: Blk b8 [.int .i64 a1.f0, .int .i64 a1.f1, .int .i64 a1.f2, .int .i64 a1.f3, .int .i64 a1.f4, .slice A4 a1.f5.length c5] 30 :: L) W) ?_ ?_
   ·
    rintro a W ⟨x72, h, hF, hO⟩
    rw [hj73] at h
    refine TQ.use ?_ hF hO
    clear hF hO
    refine TQ.then_ ?_
    refine TC.cond_b rfl h (fun hc77 h => ?_) (fun hc77 h => ?_)
    ·
     refine TC.regionAny [7] [0, 1, 2, 3, 4, 5, 6] mixed (by kernel_rfl) ?_
     refine TA.take 0 rfl (by kernel_rfl) rfl (PQ.inB PQ.body) rfl (Val.move rfl) (fun W hO => hO) ?_
     refine TA.take 1 rfl (by kernel_rfl) rfl (PQ.inB PQ.body) rfl (Val.nilCheck rfl) (fun W hO => hO) ?_
     refine TA.take 2 rfl (by kernel_rfl) rfl (PQ.inB PQ.body) rfl (Val.fieldAddrB Try.underlying83 rfl fsz80 rfl rfl rfl) (fun W hO => hO) ?_
     refine TA.take 3 rfl (by kernel_rfl) rfl (PQ.inB PQ.body) rfl (Val.loadB 0 agg80 rfl rfl rfl) (fun W hO => hO) ?_
     refine TA.take 4 rfl (by kernel_rfl) rfl (PQ.inB PQ.body) rfl (Val.loadB 1 agg3 rfl rfl rfl) (fun W hO => hO) ?_
     refine TA.take 5 rfl (by kernel_rfl) rfl (PQ.inB PQ.body) rfl (Val.fieldAddrB Try.underlying30 rfl fsz3 rfl rfl rfl) (fun W hO => hO) ?_
     refine TA.take 6 rfl (by kernel_rfl) rfl (PQ.inB PQ.body) rfl (Val.loadB 4 agg3 rfl rfl rfl) (fun W hO => hO) ?_
     obtain ⟨hz79, h⟩ := ite_no h
     refine TA.eff 7 rfl (by kernel_rfl) rfl (TL.mapUpdate 3 (L' := (Blk b1 [.map (some b2), .map (some b3)] 83 :: Blk b11 [.int .i64 y9] 3 :: Mp Try.prog 3 3 b2 (mdel a0_0_0 y9) :: Mp Try.prog 3 3 b3 (mput (mdelf (mdel a0_1_0 y9) (fun _ v => decide (v = y9))) y9 a1.f2) :: Blk b8 [.int .i64 a1.f0, .int .i64 a1.f1, .int .i64 a1.f2, .int .i64 a1.f3, .int .i64 a1.f4, .slice A4 a1.f5.length c5] 30 :: L)) rfl Try.underlying80 Try.underlying3 Try.underlying3 rfl rfl rfl rfl rfl hz79 ?_)
     refine TA.last rfl ?_
     refine TA.done (by kernel_rfl) ?_
     refine TQ.inB ?_
     obtain rfl := Option.some.inj h
     exact TQ.fin (.inr rfl) rfl Try.results56 .nil rfl (FRel.mk (Ls := [Blk b1 [.map (some b2), .map (some b3)] 83, Mp Try.prog 3 3 b2 (mdel a0_0_0 y9), Mp Try.prog 3 3 b3 (mput (mdelf (mdel a0_1_0 y9) (fun _ v => decide (v = y9))) y9 a1.f2)]) [0, 2, 3] 5 (Gd.le.refl _) rfl rfl rfl ⟨rfl, rfl, rfl⟩)
    ·
     refine TC.skip ?_
     refine TQ.inB ?_
     obtain rfl := Option.some.inj h
     exact TQ.fin (.inr rfl) rfl Try.results56 .nil rfl (FRel.mk (Ls := [Blk b1 [.map (some b2), .map (some b3)] 83, Mp Try.prog 3 3 b2 (mdel a0_0_0 y9), Mp Try.prog 3 3 b3 (mdelf (mdel a0_1_0 y9) (fun _ v => decide (v = y9)))]) [0, 2, 3] 5 (Gd.le.refl _) rfl rfl rfl ⟨rfl, rfl, rfl⟩)
   ·
    refine TC.region ?_
    refine TL.cons (TO.val rfl rfl rfl (Val.fieldAddrB Try.underlying30 rfl fsz3 rfl rfl rfl) ?_)
    refine TL.cons (TO.val rfl rfl rfl (Val.loadB 2 agg3 rfl rfl rfl) ?_)
    refine TL.cons (TO.val rfl rfl rfl (Val.cmp rfl rfl run_eql) ?_)
    refine TL.cons (TO.val rfl rfl rfl (Val.move rfl) ?_)
    refine TK.split (p := a1.f0 = 3) h (fun hg80 h => ?_) (fun hg80 h => ?_)
    ·
     have hk81 : decide (a1.f0 = 3) = true := decide_eq_true hg80
     refine TL.cons (TO.val (Wt.yes rfl rfl rfl hk81) rfl rfl (Val.fieldAddrB Try.underlying30 rfl fsz3 rfl rfl rfl) ?_)
     refine TL.cons (TO.val (Wt.yes rfl rfl rfl hk81) rfl rfl (Val.loadB 2 agg3 rfl rfl rfl) ?_)
     refine TL.cons (TO.val (Wt.yes rfl rfl rfl hk81) rfl rfl (Val.loadB 1 agg3 rfl rfl rfl) ?_)
     refine TL.cons (TO.val (Wt.yes rfl rfl rfl hk81) rfl rfl (Val.cmp rfl rfl run_neq) ?_)
     refine TL.cons (TO.val rfl rfl rfl (Val.pickY rfl hk81 rfl) ?_)
     refine TL.cons (TO.val rfl rfl rfl (Val.assign rfl) ?_)
     refine TL.nil ?_
     exact fun a W hF hO => ⟨(!decide (a1.f2 = y9)), h, hF.sub ⟨rfl, rfl, rfl, rfl, trivial⟩, hO.selT (Ls := [Blk b1 [.map (some b2), .map (some b3)] 83, Blk b11 [.int .i64 y9] 3, Mp Try.prog 3 3 b2 (mdel a0_0_0 y9), Mp Try.prog 3 3 b3 (mdelf (mdel a0_1_0 y9) (fun _ v => decide (v = y9))), Blk b8 [.int .i64 a1.f0, .int .i64 a1.f1, .int .i64 a1.f2, .int .i64 a1.f3, .int .i64 a1.f4, .slice A4 a1.f5.length c5] 30]) [3, 1, 4, 0, 2] 5 rfl rfl rfl⟩
    ·
     have hk82 : decide (a1.f0 = 3) = false := decide_eq_false hg80
     refine TL.cons (TL.not (Wt.no rfl rfl rfl hk82) rfl ?_)
     refine TL.cons (TL.not (Wt.no rfl rfl rfl hk82) rfl ?_)
     refine TL.cons (TL.not (Wt.no rfl rfl rfl hk82) rfl ?_)
     refine TL.cons (TL.not (Wt.no rfl rfl rfl hk82) rfl ?_)
     refine TL.cons (TO.val rfl rfl rfl (Val.pickN rfl hk82 rfl) ?_)
     refine TL.cons (TO.val rfl rfl rfl (Val.assign rfl) ?_)
     refine TL.nil ?_
     exact fun a W hF hO => ⟨false, h, hF.sub ⟨rfl, rfl, rfl, rfl, trivial⟩, hO.selT (Ls := [Blk b1 [.map (some b2), .map (some b3)] 83, Blk b11 [.int .i64 y9] 3, Mp Try.prog 3 3 b2 (mdel a0_0_0 y9), Mp Try.prog 3 3 b3 (mdelf (mdel a0_1_0 y9) (fun _ v => decide (v = y9))), Blk b8 [.int .i64 a1.f0, .int .i64 a1.f1, .int .i64 a1.f2, .int .i64 a1.f3, .int .i64 a1.f4, .slice A4 a1.f5.length c5] 30]) [3, 1, 4, 0, 2] 5 rfl rfl rfl⟩
end Go.Proofs.Ytmacdhkfgoahcaa.Sy
set_option linter.unusedVariables false
set_option linter.unusedSimpArgs false
set_option maxRecDepth 100000
set_option maxHeartbeats 4000000
namespace Go.Proofs.Ytmacdhkfgoahcaa.Sy
open Go Go.RowKit Go.Proofs.YtmacdhkfgoahcaaW.PrintWords 
def code_TermUses.f (a0 : S25) : Option (List Int) := jn (γ := (List Int)) (fun (x5 : Bool) => (if x5 = true then some ([a0.f1] : List Int) else some ([] : List Int))) (fun (j6 : (Bool → Option (List Int))) => (if a0.f0 = 2 then j6 true else j6 (decide (a0.f0 = 3))))
def code_TermUses.post (G : Gd)  (r : (List Int)) (v : Value) (G' : Gd) (Lr : List Ch) : Prop := G = G' ∧ ∃ (A_1 : Option Addr) (c_1 : Nat), v = .slice A_1 r.length c_1 ∧ Lr = [Row (Kd.int .i64) 3 (.slice A_1 r.length c_1) r]
theorem code_TermUses.calls {G : Gd} {r : (List Int)} {a0 : S25} (h : code_TermUses.f a0 = some r) : Fn Try.prog 82 G [] [.agg #[.int .i64 a0.f0, .int .i64 a0.f1, .int .i64 a0.f2, .int .i64 a0.f3]] (code_TermUses.post G  r) := by
 refine Fn.intro (e := [(0, .agg #[.int .i64 a0.f0, .int .i64 a0.f1, .int .i64 a0.f2, .int .i64 a0.f3])]) 14 Try.func82 rfl Try.ntmps82 rfl rfl (Nat.le_of_ble_eq_true rfl) (fun L => ?_)
 unfold code_TermUses.f at h
 refine TC.seq ?_
 refine TC.region ?_
 refine TL.cons (TL.box (cs := [.int .i64 a0.f0, .int .i64 a0.f1, .int .i64 a0.f2, .int .i64 a0.f3]) rfl rfl rfl rfl (fun b1 => ?_))
 refine TL.cons (TO.val rfl rfl rfl (Val.assign rfl) ?_)
 refine TL.nil ?_
 refine TQ.then_ ?_
 refine TC.seq ?_
 refine TC.seq ?_
 obtain ⟨j6, hj6, h⟩ := jn_no h
 refine TC.tail (fun a W => ∃ (x5 : Bool), j6 x5 = some r ∧ Fr 14 a [(1, .pointer (some ⟨b1, 0, none⟩)), (10, .bool x5)] ∧ Own G (Blk b1 [.int .i64 a0.f0, .int .i64 a0.f1, .int .i64 a0.f2, .int .i64 a0.f3] 25 :: L) W) ?_ ?_
 ·
  rintro a W ⟨x5, h, hF, hO⟩
  rw [hj6] at h
  refine TQ.use ?_ hF hO
  clear hF hO
  refine TQ.then_ ?_
  refine TC.cond_b rfl h (fun hc9 h => ?_) (fun hc9 h => ?_)
  ·
   refine TC.seq ?_
   refine TC.region ?_
   refine TL.cons (TO.val rfl rfl rfl (Val.fieldAddrB Try.underlying25 rfl fsz3 rfl rfl rfl) ?_)
   refine TL.cons (TO.val rfl rfl rfl (Val.loadB 0 agg3 rfl rfl rfl) ?_)
   refine TL.cons (TL.buildSlice (xs := [.tmp 12]) (vs := [.int .i64 a0.f1]) (cs := [.int .i64 a0.f1]) rfl rfl Try.underlying22 zs3 rfl rfl rfl rfl rfl rfl rfl rfl (fun b10 => ?_))
   refine TL.cons (TO.val rfl rfl rfl (Val.assign rfl) ?_)
   refine TL.nil ?_
   refine TQ.then_ ?_
   refine TC.ret ?_
   refine TQ.thenR ?_
   refine TQ.new (Els.nil (Kd.int .i64)) ?_
   refine TQ.new (El.of (k := (Kd.int .i64)) (xv := a0.f1) (cs := [.int .i64 a0.f1]) (fun W B => rfl)) ?_
   refine TQ.sel (Ls := [Els (Kd.int .i64) [] [], El (Kd.int .i64) a0.f1 [.int .i64 a0.f1], Blk b10 [.int .i64 a0.f1] 3, Blk b1 [.int .i64 a0.f0, .int .i64 a0.f1, .int .i64 a0.f2, .int .i64 a0.f3] 25]) [1, 0, 2, 3] 4 rfl rfl rfl ?_
   refine TQ.two (ch := Els (Kd.int .i64) [a0.f1] [.int .i64 a0.f1]) (Els.snoc (Kd.int .i64)) ?_
   refine TQ.sel (Ls := [Blk b10 [.int .i64 a0.f1] 3, Els (Kd.int .i64) [a0.f1] [.int .i64 a0.f1], Blk b1 [.int .i64 a0.f0, .int .i64 a0.f1, .int .i64 a0.f2, .int .i64 a0.f3] 25]) [1, 0, 2] 3 rfl rfl rfl ?_
   refine TQ.two (ch := Row (Kd.int .i64) 3 (.slice (some ⟨b10, 0, none⟩) 1 1) ([a0.f1] : List Int)) (Row.lit (Kd.int .i64) rfl rfl) ?_
   obtain rfl := Option.some.inj h
   exact TQ.fin (.inl rfl) rfl Try.results82 (.tmp rfl .nil) rfl (FRel.mk (Ls := [Row (Kd.int .i64) 3 (.slice (some ⟨b10, 0, none⟩) 1 1) ([a0.f1] : List Int)]) [0] 2 (Gd.le.refl _) rfl rfl rfl ⟨rfl, (some ⟨b10, 0, none⟩), 1, rfl, rfl⟩)
  ·
   refine TC.skip ?_
   refine TQ.then_ ?_
   refine TC.seq ?_
   refine TC.region ?_
   refine TL.cons (TO.val rfl rfl rfl (Val.assign rfl) ?_)
   refine TL.nil ?_
   refine TQ.then_ ?_
   refine TC.ret ?_
   refine TQ.nilRow (Kd.int .i64) 3 ?_
   obtain rfl := Option.some.inj h
   exact TQ.fin (.inl rfl) rfl Try.results82 (.tmp rfl .nil) rfl (FRel.mk (Ls := [Row (Kd.int .i64) 3 (.slice none 0 0) ([] : List Int)]) [0] 2 (Gd.le.refl _) rfl rfl rfl ⟨rfl, none, 0, rfl, rfl⟩)
 ·
  refine TC.region ?_
  refine TL.cons (TO.val rfl rfl rfl (Val.fieldAddrB Try.underlying25 rfl fsz3 rfl rfl rfl) ?_)
  refine TL.cons (TO.val rfl rfl rfl (Val.loadB 0 agg3 rfl rfl rfl) ?_)
  refine TL.cons (TO.val rfl rfl rfl (Val.cmp rfl rfl run_eql) ?_)
  refine TL.cons (TO.val rfl rfl rfl (Val.move rfl) ?_)
  refine TK.split (p := a0.f0 = 2) h (fun hg13 h => ?_) (fun hg13 h => ?_)
  ·
   have hk14 : decide (a0.f0 = 2) = true := decide_eq_true hg13
   refine TL.cons (TL.not (Wt.no rfl rfl rfl hk14) rfl ?_)
   refine TL.cons (TL.not (Wt.no rfl rfl rfl hk14) rfl ?_)
   refine TL.cons (TL.not (Wt.no rfl rfl rfl hk14) rfl ?_)
   refine TL.cons (TO.val rfl rfl rfl (Val.pickY rfl hk14 rfl) ?_)
   refine TL.nil ?_
   exact fun a W hF hO => ⟨true, h, hF.sub ⟨rfl, rfl, trivial⟩, hO.selT (Ls := [Blk b1 [.int .i64 a0.f0, .int .i64 a0.f1, .int .i64 a0.f2, .int .i64 a0.f3] 25]) [0] 1 rfl rfl rfl⟩
  ·
   have hk15 : decide (a0.f0 = 2) = false := decide_eq_false hg13
   refine TL.cons (TO.val (Wt.yes rfl rfl rfl hk15) rfl rfl (Val.fieldAddrB Try.underlying25 rfl fsz3 rfl rfl rfl) ?_)
   refine TL.cons (TO.val (Wt.yes rfl rfl rfl hk15) rfl rfl (Val.loadB 0 agg3 rfl rfl rfl) ?_)
   refine TL.cons (TO.val (Wt.yes rfl rfl rfl hk15) rfl rfl (Val.cmp rfl rfl run_eql) ?_)
   refine TL.cons (TO.val rfl rfl rfl (Val.pickN rfl hk15 rfl) ?_)
   refine TL.nil ?_
   exact fun a W hF hO => ⟨decide (a0.f0 = 3), h, hF.sub ⟨rfl, rfl, trivial⟩, hO.selT (Ls := [Blk b1 [.int .i64 a0.f0, .int .i64 a0.f1, .int .i64 a0.f2, .int .i64 a0.f3] 25]) [0] 1 rfl rfl rfl⟩
end Go.Proofs.Ytmacdhkfgoahcaa.Sy
set_option linter.unusedVariables false
set_option linter.unusedSimpArgs false
set_option maxRecDepth 100000
set_option maxHeartbeats 4000000
namespace Go.Proofs.Ytmacdhkfgoahcaa.Sy
open Go Go.RowKit Go.Proofs.YtmacdhkfgoahcaaW.PrintWords 
def fold_facts_term.f (a0_0_0 : MpS) (a0_1_0 : MpS) (a1 : S25) : Option S25 := (code_TermUses.f a1).bind fun (y6 : (List Int)) => jn (γ := S25) (fun (x14 : Int) => (if wfi x14 then jn (γ := S25) (fun (x34 : Bool) => (if x34 = true then some (⟨a1.f0, x14, a1.f2, a1.f3⟩ : S25) else (if (mget a0_0_0 x14) = 0 then some (⟨1, 0, a1.f3, 0⟩ : S25) else some (⟨1, 0, a1.f2, 0⟩ : S25)))) (fun (j35 : (Bool → Option S25)) => (if (!decide (a1.f0 = 2)) = true then j35 true else j35 (!(mhas a0_0_0 x14)))) else none)) (fun (j15 : (Int → Option S25)) => (if 0 < (y6.length : Int) then (fold_facts_held.f a0_0_0 a0_1_0 a1.f1).bind fun (y45 : Int) => j15 y45 else j15 a1.f1))
def fold_facts_term.post (G : Gd) (b1 : Nat) (b2 : Nat) (b3 : Nat) (a0_0_0 : MpS) (a0_1_0 : MpS) (a1 : S25) (r : S25) (v : Value) (G' : Gd) (Lr : List Ch) : Prop := G = G' ∧ v = .agg #[.int .i64 r.f0, .int .i64 r.f1, .int .i64 r.f2, .int .i64 r.f3] ∧ Lr = [Blk b1 [.map (some b2), .map (some b3)] 83, Mp Try.prog 3 3 b2 a0_0_0, Mp Try.prog 3 3 b3 a0_1_0]
theorem fold_facts_term.calls {G : Gd} {r : S25} {a0_0_0 : MpS} {a0_1_0 : MpS} {a1 : S25} {b1 : Nat} {b2 : Nat} {b3 : Nat} (h : fold_facts_term.f a0_0_0 a0_1_0 a1 = some r) : Fn Try.prog 57 G [Blk b1 [.map (some b2), .map (some b3)] 83, Mp Try.prog 3 3 b2 a0_0_0, Mp Try.prog 3 3 b3 a0_1_0] [.pointer (some ⟨b1, 0, none⟩), .agg #[.int .i64 a1.f0, .int .i64 a1.f1, .int .i64 a1.f2, .int .i64 a1.f3]] (fold_facts_term.post G b1 b2 b3 a0_0_0 a0_1_0 a1 r) := by
 refine Fn.intro (e := [(0, .pointer (some ⟨b1, 0, none⟩)), (1, .agg #[.int .i64 a1.f0, .int .i64 a1.f1, .int .i64 a1.f2, .int .i64 a1.f3])]) 44 Try.func57 rfl Try.ntmps57 rfl rfl (Nat.le_of_ble_eq_true rfl) (fun L => ?_)
 unfold fold_facts_term.f at h
 refine TC.seq ?_
 refine TC.region ?_
 refine TL.cons (TL.box (cs := [.int .i64 a1.f0, .int .i64 a1.f1, .int .i64 a1.f2, .int .i64 a1.f3]) rfl rfl rfl rfl (fun b4 => ?_))
 refine TL.cons (TL.alloc (cs := [.int .i64 0, .int .i64 0, .int .i64 0, .int .i64 0]) rfl rfl zr25 rfl (fun b5 => ?_))
 refine TL.nil ?_
 refine TQ.then_ ?_
 refine TC.seq ?_
 refine TC.seq ?_
 refine TC.region ?_
 refine TL.cons (TO.val rfl rfl rfl (Val.loadsB 1 (cs := [.int .i64 a1.f0, .int .i64 a1.f1, .int .i64 a1.f2, .int .i64 a1.f3]) agg25 fsz25 rfl rfl rfl rfl) ?_)
 obtain ⟨y6, hy7, h⟩ := bind_no h
 refine TL.cons (TL.callV (Lin := []) (args := [.agg #[.int .i64 a1.f0, .int .i64 a1.f1, .int .i64 a1.f2, .int .i64 a1.f3]]) rfl rfl rfl hbd82 rfl rfl (code_TermUses.calls (a0 := a1) hy7) rfl ?_)
 rintro _ _ _ _ ⟨rfl, A8, c9, rfl, rfl⟩
 refine TL.cons (TO.val rfl rfl rfl (Val.len Try.underlying22 rfl) ?_)
 refine TL.cons (TO.val rfl rfl rfl (Val.cmp rfl rfl run_gtr) ?_)
 refine TL.nil ?_
 refine TQ.then_ ?_
 obtain ⟨j15, hj15, h⟩ := jn_no h
 refine TC.tail (fun a W => ∃ (x14 : Int), j15 x14 = some r ∧ Fr 44 a [(0, .pointer (some ⟨b1, 0, none⟩)), (3, .pointer (some ⟨b4, 0, none⟩)), (4, .pointer (some ⟨b5, 0, none⟩))] ∧ Own G (Blk b1 [.map (some b2), .map (some b3)] 83 :: Mp Try.prog 3 3 b2 a0_0_0 :: Mp Try.prog 3 3 b3 a0_1_0 :: Blk b4 [.int .i64 a1.f0, .int .i64 x14, .int .i64 a1.f2, .int .i64 a1.f3] 25 :: Blk b5 [.int .i64 0, .int .i64 0, .int .i64 0, .int .i64 0] 25 :: L) W) ?_ ?_
 ·
  rintro a W ⟨x14, h, hF, hO⟩
  rw [hj15] at h
  refine TQ.use ?_ hF hO
  clear hF hO
  refine TQ.then_ ?_
  refine TC.seq ?_
  refine TC.regionAny [] [0, 1, 2, 3, 4, 5, 6, 7, 8, 9, 10, 11] mixed (by kernel_rfl) ?_
  refine TA.take 0 rfl (by kernel_rfl) rfl (PQ.then_ PQ.body) rfl (Val.move rfl) (fun W hO => hO) ?_
  refine TA.take 1 rfl (by kernel_rfl) rfl (PQ.then_ PQ.body) rfl (Val.nilCheck rfl) (fun W hO => hO) ?_
  refine TA.take 2 rfl (by kernel_rfl) rfl (PQ.then_ PQ.body) rfl (Val.fieldAddrB Try.underlying83 rfl fsz81 rfl rfl rfl) (fun W hO => hO) ?_
  refine TA.take 3 rfl (by kernel_rfl) rfl (PQ.then_ PQ.body) rfl (Val.loadB 0 agg81 rfl rfl rfl) (fun W hO => hO) ?_
  refine TA.take 4 rfl (by kernel_rfl) rfl (PQ.then_ PQ.body) rfl (Val.fieldAddrB Try.underlying25 rfl fsz3 rfl rfl rfl) (fun W hO => hO) ?_
  refine TA.take 5 rfl (by kernel_rfl) rfl (PQ.then_ PQ.body) rfl (Val.loadB 3 agg3 rfl rfl rfl) (fun W hO => hO) ?_
  obtain ⟨hz17, h⟩ := ite_no h
  refine TA.take 6 rfl (by kernel_rfl) rfl (PQ.then_ PQ.body) rfl (Val.lookupOk 1 Try.underlying81 Try.underlying3 Try.underlying3 zr3 rfl rfl rfl hz17) (fun W hO => hO) ?_
  refine TA.take 7 rfl (by kernel_rfl) rfl (PQ.then_ PQ.body) rfl (Val.move rfl) (fun W hO => hO) ?_
  refine TA.take 8 rfl (by kernel_rfl) rfl (PQ.then_ PQ.body) rfl (Val.extract rfl rfl) (fun W hO => hO) ?_
  refine TA.take 9 rfl (by kernel_rfl) rfl (PQ.then_ PQ.body) rfl (Val.extract rfl rfl) (fun W hO => hO) ?_
  refine TA.take 10 rfl (by kernel_rfl) rfl (PQ.then_ PQ.body) rfl (Val.assign rfl) (fun W hO => hO) ?_
  refine TA.take 11 rfl (by kernel_rfl) rfl (PQ.then_ PQ.body) rfl (Val.assign rfl) (fun W hO => hO) ?_
  refine TA.done (by kernel_rfl) ?_
  refine TQ.then_ ?_
  refine TC.seq ?_
  refine TC.block ?_
  refine TC.seq ?_
  obtain ⟨j35, hj35, h⟩ := jn_no h
  refine TC.tail (fun a W => ∃ (x34 : Bool), j35 x34 = some r ∧ Fr 44 a [(3, .pointer (some ⟨b4, 0, none⟩)), (4, .pointer (some ⟨b5, 0, none⟩)), (5, .int .i64 (mget a0_0_0 x14)), (26, .bool x34)] ∧ Own G (Blk b1 [.map (some b2), .map (some b3)] 83 :: Mp Try.prog 3 3 b2 a0_0_0 :: Mp Try.prog 3 3 b3 a0_1_0 :: Blk b4 [.int .i64 a1.f0, .int .i64 x14, .int .i64 a1.f2, .int .i64 a1.f3] 25 :: Blk b5 [.int .i64 0, .int .i64 0, .int .i64 0, .int .i64 0] 25 :: L) W) ?_ ?_
  ·
   rintro a W ⟨x34, h, hF, hO⟩
   rw [hj35] at h
   refine TQ.use ?_ hF hO
   clear hF hO
   refine TQ.then_ ?_
   refine TC.cond_b rfl h (fun hc38 h => ?_) (fun hc38 h => ?_)
   ·
    refine TC.seq ?_
    refine TC.region ?_
    refine TL.cons (TO.val rfl rfl rfl (Val.loadsB 3 (cs := [.int .i64 a1.f0, .int .i64 x14, .int .i64 a1.f2, .int .i64 a1.f3]) agg25 fsz25 rfl rfl rfl rfl) ?_)
    refine TL.cons (TL.store 4 (ds := [.int .i64 a1.f0, .int .i64 x14, .int .i64 a1.f2, .int .i64 a1.f3]) (cs' := [.int .i64 a1.f0, .int .i64 x14, .int .i64 a1.f2, .int .i64 a1.f3]) (L' := (Blk b1 [.map (some b2), .map (some b3)] 83 :: Mp Try.prog 3 3 b2 a0_0_0 :: Mp Try.prog 3 3 b3 a0_1_0 :: Blk b4 [.int .i64 a1.f0, .int .i64 x14, .int .i64 a1.f2, .int .i64 a1.f3] 25 :: Blk b5 [.int .i64 a1.f0, .int .i64 x14, .int .i64 a1.f2, .int .i64 a1.f3] 25 :: L)) rfl fsz25 rfl rfl rfl rfl rfl (Nat.le_of_ble_eq_true rfl) rfl rfl ?_)
    refine TL.nil ?_
    refine TQ.then_ ?_
    refine TC.ret ?_
    refine TQ.inBR ?_
    refine TQ.thenR ?_
    obtain rfl := Option.some.inj h
    exact TQ.fin (.inl rfl) rfl Try.results57 (.cells 4 rfl rfl agg25 fsz25 .nil) rfl (FRel.mk (Ls := [Blk b1 [.map (some b2), .map (some b3)] 83, Mp Try.prog 3 3 b2 a0_0_0, Mp Try.prog 3 3 b3 a0_1_0]) [0, 1, 2] 5 (Gd.le.refl _) rfl rfl rfl ⟨rfl, rfl, rfl⟩)
   ·
    refine TC.seq ?_
    refine TC.region ?_
    refine TL.cons (TO.val rfl rfl rfl (Val.move rfl) ?_)
    refine TL.cons (TO.val rfl rfl rfl (Val.cmp rfl rfl run_eql) ?_)
    refine TL.cons (TO.val rfl rfl rfl (Val.assign rfl) ?_)
    refine TL.nil ?_
    refine TQ.then_ ?_
    refine TC.cond_p rfl h (fun hc40 h => ?_) (fun hc40 h => ?_)
    ·
     refine TC.seq ?_
     refine TC.region ?_
     refine TL.cons (TO.val rfl rfl rfl (Val.fieldAddrB Try.underlying25 rfl fsz3 rfl rfl rfl) ?_)
     refine TL.cons (TO.val rfl rfl rfl (Val.loadB 3 agg3 rfl rfl rfl) ?_)
     refine TL.cons (TO.val rfl rfl rfl (Val.build (cs := [.int .i64 1, .int .i64 0, .int .i64 a1.f3, .int .i64 0]) (is := [0, 2]) (xs := [.const (.int .i64 1), .tmp 39]) Try.underlying25 zr25 bld25 rfl rfl rfl rfl) ?_)
     refine TL.cons (TL.store 4 (ds := [.int .i64 1, .int .i64 0, .int .i64 a1.f3, .int .i64 0]) (cs' := [.int .i64 1, .int .i64 0, .int .i64 a1.f3, .int .i64 0]) (L' := (Blk b1 [.map (some b2), .map (some b3)] 83 :: Mp Try.prog 3 3 b2 a0_0_0 :: Mp Try.prog 3 3 b3 a0_1_0 :: Blk b4 [.int .i64 a1.f0, .int .i64 x14, .int .i64 a1.f2, .int .i64 a1.f3] 25 :: Blk b5 [.int .i64 1, .int .i64 0, .int .i64 a1.f3, .int .i64 0] 25 :: L)) rfl fsz25 rfl rfl rfl rfl rfl (Nat.le_of_ble_eq_true rfl) rfl rfl ?_)
     refine TL.nil ?_
     refine TQ.then_ ?_
     refine TC.ret ?_
     refine TQ.inBR ?_
     refine TQ.thenR ?_
     obtain rfl := Option.some.inj h
     exact TQ.fin (.inl rfl) rfl Try.results57 (.cells 4 rfl rfl agg25 fsz25 .nil) rfl (FRel.mk (Ls := [Blk b1 [.map (some b2), .map (some b3)] 83, Mp Try.prog 3 3 b2 a0_0_0, Mp Try.prog 3 3 b3 a0_1_0]) [0, 1, 2] 5 (Gd.le.refl _) rfl rfl rfl ⟨rfl, rfl, rfl⟩)
    ·
     refine TC.skip ?_
     refine TQ.inB ?_
     refine TQ.then_ ?_
     refine TC.seq ?_
     refine TC.region ?_
     refine TL.cons (TO.val rfl rfl rfl (Val.fieldAddrB Try.underlying25 rfl fsz3 rfl rfl rfl) ?_)
     refine TL.cons (TO.val rfl rfl rfl (Val.loadB 3 agg3 rfl rfl rfl) ?_)
     refine TL.cons (TO.val rfl rfl rfl (Val.build (cs := [.int .i64 1, .int .i64 0, .int .i64 a1.f2, .int .i64 0]) (is := [0, 2]) (xs := [.const (.int .i64 1), .tmp 42]) Try.underlying25 zr25 bld25 rfl rfl rfl rfl) ?_)
     refine TL.cons (TL.store 4 (ds := [.int .i64 1, .int .i64 0, .int .i64 a1.f2, .int .i64 0]) (cs' := [.int .i64 1, .int .i64 0, .int .i64 a1.f2, .int .i64 0]) (L' := (Blk b1 [.map (some b2), .map (some b3)] 83 :: Mp Try.prog 3 3 b2 a0_0_0 :: Mp Try.prog 3 3 b3 a0_1_0 :: Blk b4 [.int .i64 a1.f0, .int .i64 x14, .int .i64 a1.f2, .int .i64 a1.f3] 25 :: Blk b5 [.int .i64 1, .int .i64 0, .int .i64 a1.f2, .int .i64 0] 25 :: L)) rfl fsz25 rfl rfl rfl rfl rfl (Nat.le_of_ble_eq_true rfl) rfl rfl ?_)
     refine TL.nil ?_
     refine TQ.then_ ?_
     refine TC.ret ?_
     obtain rfl := Option.some.inj h
     exact TQ.fin (.inl rfl) rfl Try.results57 (.cells 4 rfl rfl agg25 fsz25 .nil) rfl (FRel.mk (Ls := [Blk b1 [.map (some b2), .map (some b3)] 83, Mp Try.prog 3 3 b2 a0_0_0, Mp Try.prog 3 3 b3 a0_1_0]) [0, 1, 2] 5 (Gd.le.refl _) rfl rfl rfl ⟨rfl, rfl, rfl⟩)
  ·
   refine TC.region ?_
   refine TL.cons (TO.val rfl rfl rfl (Val.fieldAddrB Try.underlying25 rfl fsz3 rfl rfl rfl) ?_)
   refine TL.cons (TO.val rfl rfl rfl (Val.loadB 3 agg3 rfl rfl rfl) ?_)
   refine TL.cons (TO.val rfl rfl rfl (Val.cmp rfl rfl run_neq) ?_)
   refine TL.cons (TO.val rfl rfl rfl (Val.move rfl) ?_)
   refine TK.split (p := (!decide (a1.f0 = 2)) = true) h (fun hg41 h => ?_) (fun hg41 h => ?_)
   ·
    have hk42 : (!decide (a1.f0 = 2)) = true := hg41
    refine TL.cons (TL.not (Wt.no rfl rfl rfl hk42) rfl ?_)
    refine TL.cons (TL.not (Wt.no rfl rfl rfl hk42) rfl ?_)
    refine TL.cons (TO.val rfl rfl rfl (Val.pickY rfl hk42 rfl) ?_)
    refine TL.cons (TO.val rfl rfl rfl (Val.assign rfl) ?_)
    refine TL.nil ?_
    exact fun a W hF hO => ⟨true, h, hF.sub ⟨rfl, rfl, rfl, rfl, trivial⟩, hO.selT (Ls := [Blk b1 [.map (some b2), .map (some b3)] 83, Mp Try.prog 3 3 b2 a0_0_0, Mp Try.prog 3 3 b3 a0_1_0, Blk b4 [.int .i64 a1.f0, .int .i64 x14, .int .i64 a1.f2, .int .i64 a1.f3] 25, Blk b5 [.int .i64 0, .int .i64 0, .int .i64 0, .int .i64 0] 25]) [0, 1, 2, 3, 4] 5 rfl rfl rfl⟩
   ·
    have hk43 : (!decide (a1.f0 = 2)) = false := (by simpa using hg41)
    refine TL.cons (TO.val (Wt.yes rfl rfl rfl hk43) rfl rfl (Val.move rfl) ?_)
    refine TL.cons (TO.val (Wt.yes rfl rfl rfl hk43) rfl rfl (Val.not_ rfl) ?_)
    refine TL.cons (TO.val rfl rfl rfl (Val.pickN rfl hk43 rfl) ?_)
    refine TL.cons (TO.val rfl rfl rfl (Val.assign rfl) ?_)
    refine TL.nil ?_
    exact fun a W hF hO => ⟨(!(mhas a0_0_0 x14)), h, hF.sub ⟨rfl, rfl, rfl, rfl, trivial⟩, hO.selT (Ls := [Blk b1 [.map (some b2), .map (some b3)] 83, Mp Try.prog 3 3 b2 a0_0_0, Mp Try.prog 3 3 b3 a0_1_0, Blk b4 [.int .i64 a1.f0, .int .i64 x14, .int .i64 a1.f2, .int .i64 a1.f3] 25, Blk b5 [.int .i64 0, .int .i64 0, .int .i64 0, .int .i64 0] 25]) [0, 1, 2, 3, 4] 5 rfl rfl rfl⟩
 ·
  refine TC.cond_p rfl h (fun hc44 h => ?_) (fun hc44 h => ?_)
  ·
   refine TC.region ?_
   refine TL.cons (TO.val rfl rfl rfl (Val.move rfl) ?_)
   refine TL.cons (TO.val rfl rfl rfl (Val.fieldAddrB Try.underlying25 rfl fsz3 rfl rfl rfl) ?_)
   refine TL.cons (TO.val rfl rfl rfl (Val.loadB 2 agg3 rfl rfl rfl) ?_)
   refine TK.sel (Ls := [Blk b1 [.map (some b2), .map (some b3)] 83, Mp Try.prog 3 3 b2 a0_0_0, Mp Try.prog 3 3 b3 a0_1_0, Row (Kd.int .i64) 3 (.slice A8 y6.length c9) y6, Blk b5 [.int .i64 0, .int .i64 0, .int .i64 0, .int .i64 0] 25, Blk b4 [.int .i64 a1.f0, .int .i64 a1.f1, .int .i64 a1.f2, .int .i64 a1.f3] 25]) [3, 4, 5, 0, 1, 2] 6 rfl rfl rfl ?_
   obtain ⟨y45, hy46, h⟩ := bind_no h
   refine TL.cons (TL.callV (Lin := [Blk b1 [.map (some b2), .map (some b3)] 83, Mp Try.prog 3 3 b2 a0_0_0, Mp Try.prog 3 3 b3 a0_1_0]) (args := [.pointer (some ⟨b1, 0, none⟩), .int .i64 a1.f1]) rfl rfl rfl hbd79 rfl rfl (fold_facts_held.calls (a0_0_0 := a0_0_0) (a0_1_0 := a0_1_0) (a1 := a1.f1) hy46) rfl ?_)
   rintro _ _ _ _ ⟨rfl, rfl, rfl⟩
   refine TL.cons (TO.val rfl rfl rfl (Val.fieldAddrB Try.underlying25 rfl fsz3 rfl rfl rfl) ?_)
   refine TL.cons (TL.store 5 (ds := [.int .i64 y45]) (cs' := [.int .i64 a1.f0, .int .i64 y45, .int .i64 a1.f2, .int .i64 a1.f3]) (L' := (Blk b1 [.map (some b2), .map (some b3)] 83 :: Mp Try.prog 3 3 b2 a0_0_0 :: Mp Try.prog 3 3 b3 a0_1_0 :: Row (Kd.int .i64) 3 (.slice A8 y6.length c9) y6 :: Blk b5 [.int .i64 0, .int .i64 0, .int .i64 0, .int .i64 0] 25 :: Blk b4 [.int .i64 a1.f0, .int .i64 y45, .int .i64 a1.f2, .int .i64 a1.f3] 25 :: L)) rfl fsz3 rfl rfl rfl rfl rfl (Nat.le_of_ble_eq_true rfl) rfl rfl ?_)
   refine TL.nil ?_
   exact fun a W hF hO => ⟨y45, h, hF.sub ⟨rfl, rfl, rfl, trivial⟩, hO.selT (Ls := [Blk b1 [.map (some b2), .map (some b3)] 83, Mp Try.prog 3 3 b2 a0_0_0, Mp Try.prog 3 3 b3 a0_1_0, Blk b4 [.int .i64 a1.f0, .int .i64 y45, .int .i64 a1.f2, .int .i64 a1.f3] 25, Blk b5 [.int .i64 0, .int .i64 0, .int .i64 0, .int .i64 0] 25]) [0, 1, 2, 5, 4] 6 rfl rfl rfl⟩
  ·
   refine TC.skip ?_
   exact fun a W hF hO => ⟨a1.f1, h, hF.sub ⟨rfl, rfl, rfl, trivial⟩, hO.selT (Ls := [Blk b1 [.map (some b2), .map (some b3)] 83, Mp Try.prog 3 3 b2 a0_0_0, Mp Try.prog 3 3 b3 a0_1_0, Blk b4 [.int .i64 a1.f0, .int .i64 a1.f1, .int .i64 a1.f2, .int .i64 a1.f3] 25, Blk b5 [.int .i64 0, .int .i64 0, .int .i64 0, .int .i64 0] 25]) [3, 4, 5, 2, 1] 6 rfl rfl rfl⟩
end Go.Proofs.Ytmacdhkfgoahcaa.Sy
set_option linter.unusedVariables false
set_option linter.unusedSimpArgs false
set_option maxRecDepth 100000
set_option maxHeartbeats 4000000
namespace Go.Proofs.Ytmacdhkfgoahcaa.Sy
open Go Go.RowKit Go.Proofs.YtmacdhkfgoahcaaW.PrintWords 
def fold_Block.l0 (a0 : S28) : Nat → Int → (List S30) → MpS → MpS → Option ((List S30) × MpS × MpS)
 | 0, _, _, _, _ => none
 | n376 + 1, x248, l249, x253, x254 => (if x248 < (a0.f0.length : Int) then (at? a0.f0 x248).bind fun y548 => (fold_facts_replaced.f x253 x254 y548).bind fun (y577 : S30) => (fold_numbers_op.f x253 y577).bind fun (y585 : S30) => (fold_facts_learn.f x253 x254 y585).bind fun (y597 : (MpS × MpS)) => (if l249.length < 2199023255552 then fold_Block.l0 a0 n376 (IntKind.i64.wrap (x248 + 1)) (l249 ++ [y585]) y597.1 y597.2 else none) else some (l249, x253, x254))
def fold_Block.f (a0 : S28) : Option S28 := (fold_Block.l0 a0 (a0.f0.length + 1) 0 [] mnil mnil).bind fun (l369, x373, x374) => (fold_facts_term.f x373 x374 a0.f1).bind fun (y489 : S25) => some (⟨l369, y489⟩ : S28)
def fold_Block.post (G : Gd)  (r : S28) (v : Value) (G' : Gd) (Lr : List Ch) : Prop := ∃ (A_1 : Option Addr) (c_1 : Nat), v = .agg #[.slice A_1 r.f0.length c_1, .int .i64 r.f1.f0, .int .i64 r.f1.f1, .int .i64 r.f1.f2, .int .i64 r.f1.f3] ∧ Lr = [Row (Sh G' k30) 30 (.slice A_1 r.f0.length c_1) r.f0]
theorem fold_Block.calls {G : Gd} {r : S28} {a0 : S28} {A1 : Option Addr} {c2 : Nat} (hr3 : Rd G k30 A1 a0.f0) (hl4 : a0.f0.length ≤ c2) (h : fold_Block.f a0 = some r) : Fn Try.prog 28 G [] [.agg #[.slice A1 a0.f0.length c2, .int .i64 a0.f1.f0, .int .i64 a0.f1.f1, .int .i64 a0.f1.f2, .int .i64 a0.f1.f3]] (fold_Block.post G  r) := by
 refine Fn.intro (e := [(0, .agg #[.slice A1 a0.f0.length c2, .int .i64 a0.f1.f0, .int .i64 a0.f1.f1, .int .i64 a0.f1.f2, .int .i64 a0.f1.f3])]) 42 Try.func28 rfl Try.ntmps28 rfl rfl (Nat.le_of_ble_eq_true rfl) (fun L => ?_)
 unfold fold_Block.f at h
 refine TC.seq ?_
 refine TC.region ?_
 refine TL.cons (TL.box (cs := [.slice A1 a0.f0.length c2, .int .i64 a0.f1.f0, .int .i64 a0.f1.f1, .int .i64 a0.f1.f2, .int .i64 a0.f1.f3]) rfl rfl rfl rfl (fun b5 => ?_))
 refine TL.cons (TL.alloc (cs := [.slice none 0 0, .int .i64 0, .int .i64 0, .int .i64 0, .int .i64 0]) rfl rfl zr28 rfl (fun b6 => ?_))
 refine TL.nil ?_
 refine TQ.then_ ?_
 refine TC.seq ?_
 refine TC.region ?_
 refine TL.cons (TL.makeMap (k := 3) (el := 3) rfl rfl (fun b7 => ?_))
 refine TL.cons (TL.makeMap (k := 3) (el := 3) rfl rfl (fun b8 => ?_))
 refine TL.cons (TO.val rfl rfl rfl (Val.build (cs := [.map (some b7), .map (some b8)]) (is := [0, 1]) (xs := [.tmp 7, .tmp 8]) Try.underlying83 zr83 bld83 rfl rfl rfl rfl) ?_)
 refine TL.cons (TL.box (cs := [.map (some b7), .map (some b8)]) rfl rfl rfl rfl (fun b9 => ?_))
 refine TL.cons (TO.val rfl rfl rfl (Val.assign rfl) ?_)
 refine TL.nil ?_
 refine TQ.then_ ?_
 refine TC.seq ?_
 refine TC.region ?_
 refine TL.cons (TL.alloc (cs := [.slice none 0 0, .int .i64 0, .int .i64 0, .int .i64 0, .int .i64 0]) rfl rfl zr28 rfl (fun b10 => ?_))
 refine TL.nil ?_
 refine TQ.then_ ?_
 refine TC.seq ?_
 refine TC.seq ?_
 refine TC.region ?_
 refine TL.cons (TO.val rfl rfl rfl (Val.fieldAddrB Try.underlying28 rfl fsz26 rfl rfl rfl) ?_)
 refine TL.cons (TO.val rfl rfl rfl (Val.loadB 5 agg26 rfl rfl rfl) ?_)
 refine TL.cons (TO.val rfl rfl rfl (Val.len Try.underlying26 rfl) ?_)
 refine TL.cons (TO.val rfl rfl rfl (Val.move rfl) ?_)
 refine TL.nil ?_
 refine TQ.then_ ?_
 obtain ⟨o375, ho375, ko375⟩ := bind_no h
 clear h
 refine TC.tail (fun a W => ∃ (l369 : (List S30)) (x373 : MpS) (x374 : MpS) (G367 : Gd) (A370 : Option Addr) (c371 : Nat), (l369, x373, x374) = o375 ∧ G.le G367 ∧ Fr 42 a [(1, .pointer (some ⟨b5, 0, none⟩)), (2, .pointer (some ⟨b6, 0, none⟩)), (3, .pointer (some ⟨b9, 0, none⟩)), (4, .pointer (some ⟨b10, 0, none⟩))] ∧ Own G367 (Blk b10 [.slice A370 l369.length c371, .int .i64 0, .int .i64 0, .int .i64 0, .int .i64 0] 28 :: Blk b5 [.slice A1 a0.f0.length c2, .int .i64 a0.f1.f0, .int .i64 a0.f1.f1, .int .i64 a0.f1.f2, .int .i64 a0.f1.f3] 28 :: Blk b6 [.slice none 0 0, .int .i64 0, .int .i64 0, .int .i64 0, .int .i64 0] 28 :: Blk b9 [.map (some b7), .map (some b8)] 83 :: Mp Try.prog 3 3 b7 x373 :: Mp Try.prog 3 3 b8 x374 :: Row (Sh G367 k30) 30 (.slice A370 l369.length c371) l369 :: L) W) ?_ ?_
 ·
  rintro a W ⟨l369, x373, x374, G367, A370, c371, rfl, e368, hF, hO⟩
  have h := ko375
  clear ko375 ho375
  refine TQ.use ?_ hF hO
  clear hF hO
  refine TQ.then_ ?_
  refine TC.seq ?_
  refine TC.region ?_
  refine TL.cons (TO.val rfl rfl rfl (Val.move rfl) ?_)
  refine TL.cons (TO.val rfl rfl rfl (Val.fieldAddrB Try.underlying28 rfl fsz25 rfl rfl rfl) ?_)
  refine TL.cons (TO.val rfl rfl rfl (Val.loadsB 1 (cs := [.int .i64 a0.f1.f0, .int .i64 a0.f1.f1, .int .i64 a0.f1.f2, .int .i64 a0.f1.f3]) agg25 fsz25 rfl rfl rfl rfl) ?_)
  refine TK.sel (Ls := [Blk b9 [.map (some b7), .map (some b8)] 83, Mp Try.prog 3 3 b7 x373, Mp Try.prog 3 3 b8 x374, Blk b10 [.slice A370 l369.length c371, .int .i64 0, .int .i64 0, .int .i64 0, .int .i64 0] 28, Blk b5 [.slice A1 a0.f0.length c2, .int .i64 a0.f1.f0, .int .i64 a0.f1.f1, .int .i64 a0.f1.f2, .int .i64 a0.f1.f3] 28, Blk b6 [.slice none 0 0, .int .i64 0, .int .i64 0, .int .i64 0, .int .i64 0] 28, Row (Sh G367 k30) 30 (.slice A370 l369.length c371) l369]) [3, 4, 5, 0, 1, 2, 6] 7 rfl rfl rfl ?_
  obtain ⟨y489, hy490, h⟩ := bind_no h
  refine TL.cons (TL.callV (Lin := [Blk b9 [.map (some b7), .map (some b8)] 83, Mp Try.prog 3 3 b7 x373, Mp Try.prog 3 3 b8 x374]) (args := [.pointer (some ⟨b9, 0, none⟩), .agg #[.int .i64 a0.f1.f0, .int .i64 a0.f1.f1, .int .i64 a0.f1.f2, .int .i64 a0.f1.f3]]) rfl rfl rfl hbd57 rfl rfl (fold_facts_term.calls (a0_0_0 := x373) (a0_1_0 := x374) (a1 := a0.f1) hy490) rfl ?_)
  rintro _ _ _ _ ⟨rfl, rfl, rfl⟩
  refine TL.cons (TO.val rfl rfl rfl (Val.fieldAddrB Try.underlying28 rfl fsz25 rfl rfl rfl) ?_)
  refine TL.cons (TL.store 3 (ds := [.int .i64 y489.f0, .int .i64 y489.f1, .int .i64 y489.f2, .int .i64 y489.f3]) (cs' := [.slice A370 l369.length c371, .int .i64 y489.f0, .int .i64 y489.f1, .int .i64 y489.f2, .int .i64 y489.f3]) (L' := (Blk b9 [.map (some b7), .map (some b8)] 83 :: Mp Try.prog 3 3 b7 x373 :: Mp Try.prog 3 3 b8 x374 :: Blk b10 [.slice A370 l369.length c371, .int .i64 y489.f0, .int .i64 y489.f1, .int .i64 y489.f2, .int .i64 y489.f3] 28 :: Blk b5 [.slice A1 a0.f0.length c2, .int .i64 a0.f1.f0, .int .i64 a0.f1.f1, .int .i64 a0.f1.f2, .int .i64 a0.f1.f3] 28 :: Blk b6 [.slice none 0 0, .int .i64 0, .int .i64 0, .int .i64 0, .int .i64 0] 28 :: Row (Sh G367 k30) 30 (.slice A370 l369.length c371) l369 :: L)) rfl fsz25 rfl rfl rfl rfl rfl (Nat.le_of_ble_eq_true rfl) rfl rfl ?_)
  refine TL.nil ?_
  refine TQ.then_ ?_
  refine TC.seq ?_
  refine TC.region ?_
  refine TL.cons (TO.val rfl rfl rfl (Val.loadsB 3 (cs := [.slice A370 l369.length c371, .int .i64 y489.f0, .int .i64 y489.f1, .int .i64 y489.f2, .int .i64 y489.f3]) agg28 fsz28 rfl rfl rfl rfl) ?_)
  refine TL.cons (TL.store 5 (ds := [.slice A370 l369.length c371, .int .i64 y489.f0, .int .i64 y489.f1, .int .i64 y489.f2, .int .i64 y489.f3]) (cs' := [.slice A370 l369.length c371, .int .i64 y489.f0, .int .i64 y489.f1, .int .i64 y489.f2, .int .i64 y489.f3]) (L' := (Blk b9 [.map (some b7), .map (some b8)] 83 :: Mp Try.prog 3 3 b7 x373 :: Mp Try.prog 3 3 b8 x374 :: Blk b10 [.slice A370 l369.length c371, .int .i64 y489.f0, .int .i64 y489.f1, .int .i64 y489.f2, .int .i64 y489.f3] 28 :: Blk b5 [.slice A1 a0.f0.length c2, .int .i64 a0.f1.f0, .int .i64 a0.f1.f1, .int .i64 a0.f1.f2, .int .i64 a0.f1.f3] 28 :: Blk b6 [.slice A370 l369.length c371, .int .i64 y489.f0, .int .i64 y489.f1, .int .i64 y489.f2, .int .i64 y489.f3] 28 :: Row (Sh G367 k30) 30 (.slice A370 l369.length c371) l369 :: L)) rfl fsz28 rfl rfl rfl rfl rfl (Nat.le_of_ble_eq_true rfl) rfl rfl ?_)
  refine TL.nil ?_
  refine TQ.then_ ?_
  refine TC.ret ?_
  obtain rfl := Option.some.inj h
  exact TQ.fin (.inl rfl) rfl Try.results28 (.cells 5 rfl rfl agg28 fsz28 .nil) rfl (FRel.mk (Ls := [Row (Sh G367 k30) 30 (.slice A370 l369.length c371) l369]) [6] 7 e368 rfl rfl rfl ⟨A370, c371, rfl, rfl⟩)
 ·
  refine TC.block ?_
  intro a W hF hO
  have hS : ∃ (x248 : Int) (l249 : (List S30)) (x253 : MpS) (x254 : MpS) (G246 : Gd) (A250 : Option Addr) (c251 : Nat), fold_Block.l0 a0 (a0.f0.length + 1) x248 l249 x253 x254 = some o375 ∧ G.le G246 ∧ Fr 42 a [(1, .pointer (some ⟨b5, 0, none⟩)), (2, .pointer (some ⟨b6, 0, none⟩)), (3, .pointer (some ⟨b9, 0, none⟩)), (4, .pointer (some ⟨b10, 0, none⟩)), (12, .slice A1 a0.f0.length c2), (13, .int .i64 (a0.f0.length : Int)), (14, .int .i64 x248)] ∧ Own G246 (Blk b10 [.slice A250 l249.length c251, .int .i64 0, .int .i64 0, .int .i64 0, .int .i64 0] 28 :: Blk b5 [.slice A1 a0.f0.length c2, .int .i64 a0.f1.f0, .int .i64 a0.f1.f1, .int .i64 a0.f1.f2, .int .i64 a0.f1.f3] 28 :: Blk b6 [.slice none 0 0, .int .i64 0, .int .i64 0, .int .i64 0, .int .i64 0] 28 :: Blk b9 [.map (some b7), .map (some b8)] 83 :: Mp Try.prog 3 3 b7 x253 :: Mp Try.prog 3 3 b8 x254 :: Row (Sh G246 k30) 30 (.slice A250 l249.length c251) l249 :: L) W := by
   exact ⟨0, [], mnil, mnil, G, none, 0, ho375, (Gd.le.refl _), hF.sub ⟨rfl, rfl, rfl, rfl, rfl, rfl, rfl, trivial⟩, (Own.nilRow (Sh G k30) 30 hO).selT (Ls := [Blk b10 [.slice none ([] : List S30).length 0, .int .i64 0, .int .i64 0, .int .i64 0, .int .i64 0] 28, Blk b5 [.slice A1 a0.f0.length c2, .int .i64 a0.f1.f0, .int .i64 a0.f1.f1, .int .i64 a0.f1.f2, .int .i64 a0.f1.f3] 28, Blk b6 [.slice none 0 0, .int .i64 0, .int .i64 0, .int .i64 0, .int .i64 0] 28, Blk b9 [.map (some b7), .map (some b8)] 83, Mp Try.prog 3 3 b7 mnil, Mp Try.prog 3 3 b8 mnil, Row (Sh G k30) 30 (.slice none ([] : List S30).length 0) ([] : List S30)]) [1, 6, 5, 2, 4, 3, 0] 7 rfl rfl rfl⟩
  clear hF hO ho375 ko375
  refine TC.loop (fun n376 a W => ∃ (x248 : Int) (l249 : (List S30)) (x253 : MpS) (x254 : MpS) (G246 : Gd) (A250 : Option Addr) (c251 : Nat), fold_Block.l0 a0 n376 x248 l249 x253 x254 = some o375 ∧ G.le G246 ∧ Fr 42 a [(1, .pointer (some ⟨b5, 0, none⟩)), (2, .pointer (some ⟨b6, 0, none⟩)), (3, .pointer (some ⟨b9, 0, none⟩)), (4, .pointer (some ⟨b10, 0, none⟩)), (12, .slice A1 a0.f0.length c2), (13, .int .i64 (a0.f0.length : Int)), (14, .int .i64 x248)] ∧ Own G246 (Blk b10 [.slice A250 l249.length c251, .int .i64 0, .int .i64 0, .int .i64 0, .int .i64 0] 28 :: Blk b5 [.slice A1 a0.f0.length c2, .int .i64 a0.f1.f0, .int .i64 a0.f1.f1, .int .i64 a0.f1.f2, .int .i64 a0.f1.f3] 28 :: Blk b6 [.slice none 0 0, .int .i64 0, .int .i64 0, .int .i64 0, .int .i64 0] 28 :: Blk b9 [.map (some b7), .map (some b8)] 83 :: Mp Try.prog 3 3 b7 x253 :: Mp Try.prog 3 3 b8 x254 :: Row (Sh G246 k30) 30 (.slice A250 l249.length c251) l249 :: L) W) ?_ ?_ hS
  ·
   rintro a W ⟨x248, l249, x253, x254, G246, A250, c251, h, e247, hF, hO⟩
   exact none_no h
  ·
   clear hS
   rintro n376 a W ⟨x248, l249, x253, x254, G246, A250, c251, h, e247, hF, hO⟩
   rw [fold_Block.l0] at h
   refine TC.use ?_ hF hO
   clear hF hO
   refine TC.seq ?_
   refine TC.region ?_
   refine TL.cons (TO.val rfl rfl rfl (Val.cmp rfl rfl run_lss) ?_)
   refine TL.nil ?_
   refine TQ.then_ ?_
   refine TC.seq ?_
   refine TC.cond_p rfl h (fun hc492 h => ?_) (fun hc492 h => ?_)
   ·
    refine TC.skip ?_
    refine TQ.then_ ?_
    refine TC.seq ?_
    refine TC.block ?_
    refine TC.seq ?_
    refine TC.region ?_
    obtain ⟨y548, hx549, h⟩ := bind_no h
    obtain ⟨ad550, cs556, hA551, hi552, hj553, hcl554, hK555⟩ := Rd.at (hr3.up e247) hx549
    obtain ⟨A557, c558, rfl, hr559, hl560⟩ := k30_openR hK555
    refine TL.cons (TO.val rfl rfl rfl (Val.indexAddr Try.underlying26 fsz30 rfl hA551 rfl hi552 hj553) ?_)
    refine TL.cons (TO.val rfl rfl rfl (Val.loadsS (cs := [.int .i64 y548.f0, .int .i64 y548.f1, .int .i64 y548.f2, .int .i64 y548.f3, .int .i64 y548.f4, .slice A557 y548.f5.length c558]) agg30 fsz30 rfl rfl (Cl.sub (off := 0) (n := 6) hcl554 rfl)) ?_)
    refine TL.cons (TL.alloc (cs := [.int .i64 0, .int .i64 0, .int .i64 0, .int .i64 0, .int .i64 0, .slice none 0 0]) rfl rfl zr30 rfl (fun b561 => ?_))
    refine TL.cons (TL.store 0 (ds := [.int .i64 y548.f0, .int .i64 y548.f1, .int .i64 y548.f2, .int .i64 y548.f3, .int .i64 y548.f4, .slice A557 y548.f5.length c558]) (cs' := [.int .i64 y548.f0, .int .i64 y548.f1, .int .i64 y548.f2, .int .i64 y548.f3, .int .i64 y548.f4, .slice A557 y548.f5.length c558]) (L' := (Blk b561 [.int .i64 y548.f0, .int .i64 y548.f1, .int .i64 y548.f2, .int .i64 y548.f3, .int .i64 y548.f4, .slice A557 y548.f5.length c558] 30 :: Blk b10 [.slice A250 l249.length c251, .int .i64 0, .int .i64 0, .int .i64 0, .int .i64 0] 28 :: Blk b5 [.slice A1 a0.f0.length c2, .int .i64 a0.f1.f0, .int .i64 a0.f1.f1, .int .i64 a0.f1.f2, .int .i64 a0.f1.f3] 28 :: Blk b6 [.slice none 0 0, .int .i64 0, .int .i64 0, .int .i64 0, .int .i64 0] 28 :: Blk b9 [.map (some b7), .map (some b8)] 83 :: Mp Try.prog 3 3 b7 x253 :: Mp Try.prog 3 3 b8 x254 :: Row (Sh G246 k30) 30 (.slice A250 l249.length c251) l249 :: L)) rfl fsz30 rfl rfl rfl rfl rfl (Nat.le_of_ble_eq_true rfl) rfl rfl ?_)
    refine TL.nil ?_
    refine TQ.then_ ?_
    refine TC.seq ?_
    refine TC.regionAny [8] [0, 1, 2, 3, 4, 5] mixed (by kernel_rfl) ?_
    refine TA.take 0 rfl (by kernel_rfl) rfl (PQ.then_ (PQ.inB (PQ.then_ (PQ.then_ (PQ.inB (PQ.then_ (PQ.then_ PQ.body))))))) rfl (Val.move rfl) (fun W hO => hO) ?_
    refine TA.take 1 rfl (by kernel_rfl) rfl (PQ.then_ (PQ.inB (PQ.then_ (PQ.then_ (PQ.inB (PQ.then_ (PQ.then_ PQ.body))))))) rfl (Val.nilCheck rfl) (fun W hO => hO) ?_
    refine TA.take 2 rfl (by kernel_rfl) rfl (PQ.then_ (PQ.inB (PQ.then_ (PQ.then_ (PQ.inB (PQ.then_ (PQ.then_ PQ.body))))))) rfl (Val.fieldAddrB Try.underlying83 rfl fsz81 rfl rfl rfl) (fun W hO => hO) ?_
    refine TA.take 3 rfl (by kernel_rfl) rfl (PQ.then_ (PQ.inB (PQ.then_ (PQ.then_ (PQ.inB (PQ.then_ (PQ.then_ PQ.body))))))) rfl (Val.loadB 4 agg81 rfl rfl rfl) (fun W hO => hO) ?_
    refine TA.take 4 rfl (by kernel_rfl) rfl (PQ.then_ (PQ.inB (PQ.then_ (PQ.then_ (PQ.inB (PQ.then_ (PQ.then_ PQ.body))))))) rfl (Val.move rfl) (fun W hO => hO) ?_
    refine TA.take 5 rfl (by kernel_rfl) rfl (PQ.then_ (PQ.inB (PQ.then_ (PQ.then_ (PQ.inB (PQ.then_ (PQ.then_ PQ.body))))))) rfl (Val.loadsB 0 (cs := [.int .i64 y548.f0, .int .i64 y548.f1, .int .i64 y548.f2, .int .i64 y548.f3, .int .i64 y548.f4, .slice A557 y548.f5.length c558]) agg30 fsz30 rfl rfl rfl rfl) (fun W hO => hO) ?_
    refine TK.sel (Ls := [Blk b9 [.map (some b7), .map (some b8)] 83, Mp Try.prog 3 3 b7 x253, Mp Try.prog 3 3 b8 x254, Blk b561 [.int .i64 y548.f0, .int .i64 y548.f1, .int .i64 y548.f2, .int .i64 y548.f3, .int .i64 y548.f4, .slice A557 y548.f5.length c558] 30, Blk b10 [.slice A250 l249.length c251, .int .i64 0, .int .i64 0, .int .i64 0, .int .i64 0] 28, Blk b5 [.slice A1 a0.f0.length c2, .int .i64 a0.f1.f0, .int .i64 a0.f1.f1, .int .i64 a0.f1.f2, .int .i64 a0.f1.f3] 28, Blk b6 [.slice none 0 0, .int .i64 0, .int .i64 0, .int .i64 0, .int .i64 0] 28, Row (Sh G246 k30) 30 (.slice A250 l249.length c251) l249]) [4, 5, 6, 0, 1, 2, 3, 7] 8 rfl rfl rfl ?_
    obtain ⟨y577, hy578, h⟩ := bind_no h
    refine TA.eff 6 rfl (by kernel_rfl) rfl (TL.callV (Lin := [Blk b9 [.map (some b7), .map (some b8)] 83, Mp Try.prog 3 3 b7 x253, Mp Try.prog 3 3 b8 x254]) (args := [.pointer (some ⟨b9, 0, none⟩), .agg #[.int .i64 y548.f0, .int .i64 y548.f1, .int .i64 y548.f2, .int .i64 y548.f3, .int .i64 y548.f4, .slice A557 y548.f5.length c558]]) rfl rfl rfl hbd55 rfl rfl (fold_facts_replaced.calls (a0_0_0 := x253) (a0_1_0 := x254) (a1 := y548) hr559 hl560 hy578) rfl ?_)
    rintro _ G579 _ e580 ⟨A581, c582, rfl, rfl, hr583, hl584⟩
    refine TA.next (fun W hO => (Own.weak e580 hO).selT (Ls := [Blk b561 [.int .i64 y548.f0, .int .i64 y548.f1, .int .i64 y548.f2, .int .i64 y548.f3, .int .i64 y548.f4, .slice A557 y548.f5.length c558] 30, Blk b10 [.slice A250 l249.length c251, .int .i64 0, .int .i64 0, .int .i64 0, .int .i64 0] 28, Blk b5 [.slice A1 a0.f0.length c2, .int .i64 a0.f1.f0, .int .i64 a0.f1.f1, .int .i64 a0.f1.f2, .int .i64 a0.f1.f3] 28, Blk b6 [.slice none 0 0, .int .i64 0, .int .i64 0, .int .i64 0, .int .i64 0] 28, Blk b9 [.map (some b7), .map (some b8)] 83, Mp Try.prog 3 3 b7 x253, Mp Try.prog 3 3 b8 x254, Row (Sh G246 k30) 30 (.slice A250 l249.length c251) l249]) [3, 4, 5, 6, 0, 1, 2, 7] 8 rfl rfl rfl) ?_
    refine TK.sel (Ls := [Mp Try.prog 3 3 b7 x253, Blk b9 [.map (some b7), .map (some b8)] 83, Mp Try.prog 3 3 b8 x254, Blk b561 [.int .i64 y548.f0, .int .i64 y548.f1, .int .i64 y548.f2, .int .i64 y548.f3, .int .i64 y548.f4, .slice A557 y548.f5.length c558] 30, Blk b10 [.slice A250 l249.length c251, .int .i64 0, .int .i64 0, .int .i64 0, .int .i64 0] 28, Blk b5 [.slice A1 a0.f0.length c2, .int .i64 a0.f1.f0, .int .i64 a0.f1.f1, .int .i64 a0.f1.f2, .int .i64 a0.f1.f3] 28, Blk b6 [.slice none 0 0, .int .i64 0, .int .i64 0, .int .i64 0, .int .i64 0] 28, Row (Sh G246 k30) 30 (.slice A250 l249.length c251) l249]) [1, 0, 2, 3, 4, 5, 6, 7] 8 rfl rfl rfl ?_
    obtain ⟨y585, hy586, h⟩ := bind_no h
    refine TA.eff 7 rfl (by kernel_rfl) rfl (TL.callV (Lin := [Mp Try.prog 3 3 b7 x253]) (args := [.map (some b7), .agg #[.int .i64 y577.f0, .int .i64 y577.f1, .int .i64 y577.f2, .int .i64 y577.f3, .int .i64 y577.f4, .slice A581 y577.f5.length c582]]) rfl rfl rfl hbd54 rfl rfl (fold_numbers_op.calls (a0_0 := x253) (a1 := y577) hr583 hl584 hy586) rfl ?_)
    rintro _ G587 _ e588 ⟨A589, c590, rfl, rfl⟩
    refine TA.next (fun W hO => (Own.weak e580 (Own.weak e588 hO)).selT (Ls := [Blk b561 [.int .i64 y548.f0, .int .i64 y548.f1, .int .i64 y548.f2, .int .i64 y548.f3, .int .i64 y548.f4, .slice A557 y548.f5.length c558] 30, Blk b10 [.slice A250 l249.length c251, .int .i64 0, .int .i64 0, .int .i64 0, .int .i64 0] 28, Blk b5 [.slice A1 a0.f0.length c2, .int .i64 a0.f1.f0, .int .i64 a0.f1.f1, .int .i64 a0.f1.f2, .int .i64 a0.f1.f3] 28, Blk b6 [.slice none 0 0, .int .i64 0, .int .i64 0, .int .i64 0, .int .i64 0] 28, Blk b9 [.map (some b7), .map (some b8)] 83, Mp Try.prog 3 3 b7 x253, Mp Try.prog 3 3 b8 x254, Row (Sh G246 k30) 30 (.slice A250 l249.length c251) l249]) [4, 5, 6, 7, 2, 0, 3, 8] 9 rfl rfl rfl) ?_
    refine TA.eff 8 rfl (by kernel_rfl) rfl (TL.store 4 (ds := [.int .i64 y585.f0, .int .i64 y585.f1, .int .i64 y585.f2, .int .i64 y585.f3, .int .i64 y585.f4, .slice A589 y585.f5.length c590]) (cs' := [.int .i64 y585.f0, .int .i64 y585.f1, .int .i64 y585.f2, .int .i64 y585.f3, .int .i64 y585.f4, .slice A589 y585.f5.length c590]) (L' := (Mp Try.prog 3 3 b7 x253 :: Row (Kd.int .i64) 3 (.slice A589 y585.f5.length c590) y585.f5 :: Blk b9 [.map (some b7), .map (some b8)] 83 :: Mp Try.prog 3 3 b8 x254 :: Blk b561 [.int .i64 y585.f0, .int .i64 y585.f1, .int .i64 y585.f2, .int .i64 y585.f3, .int .i64 y585.f4, .slice A589 y585.f5.length c590] 30 :: Blk b10 [.slice A250 l249.length c251, .int .i64 0, .int .i64 0, .int .i64 0, .int .i64 0] 28 :: Blk b5 [.slice A1 a0.f0.length c2, .int .i64 a0.f1.f0, .int .i64 a0.f1.f1, .int .i64 a0.f1.f2, .int .i64 a0.f1.f3] 28 :: Blk b6 [.slice none 0 0, .int .i64 0, .int .i64 0, .int .i64 0, .int .i64 0] 28 :: Row (Sh G246 k30) 30 (.slice A250 l249.length c251) l249 :: L)) rfl fsz30 rfl rfl rfl rfl rfl (Nat.le_of_ble_eq_true rfl) rfl rfl ?_)
    refine TA.last rfl ?_
    refine TA.done (by kernel_rfl) ?_
    refine TQ.then_ ?_
    refine TC.seq ?_
    refine TC.region ?_
    refine TL.cons (TO.val rfl rfl rfl (Val.move rfl) ?_)
    refine TL.cons (TO.val rfl rfl rfl (Val.loadsB 4 (cs := [.int .i64 y585.f0, .int .i64 y585.f1, .int .i64 y585.f2, .int .i64 y585.f3, .int .i64 y585.f4, .slice A589 y585.f5.length c590]) agg30 fsz30 rfl rfl rfl rfl) ?_)
    refine TK.sel (Ls := [Row (Kd.int .i64) 3 (.slice A589 y585.f5.length c590) y585.f5, Mp Try.prog 3 3 b7 x253, Blk b9 [.map (some b7), .map (some b8)] 83, Mp Try.prog 3 3 b8 x254, Blk b561 [.int .i64 y585.f0, .int .i64 y585.f1, .int .i64 y585.f2, .int .i64 y585.f3, .int .i64 y585.f4, .slice A589 y585.f5.length c590] 30, Blk b10 [.slice A250 l249.length c251, .int .i64 0, .int .i64 0, .int .i64 0, .int .i64 0] 28, Blk b5 [.slice A1 a0.f0.length c2, .int .i64 a0.f1.f0, .int .i64 a0.f1.f1, .int .i64 a0.f1.f2, .int .i64 a0.f1.f3] 28, Blk b6 [.slice none 0 0, .int .i64 0, .int .i64 0, .int .i64 0, .int .i64 0] 28, Row (Sh G246 k30) 30 (.slice A250 l249.length c251) l249]) [1, 0, 2, 3, 4, 5, 6, 7, 8] 9 rfl rfl rfl ?_
    refine TK.share (fun G592 e593 hs594 _ => ?_)
    have rd595 : Rd G592 (Kd.int .i64) A589 y585.f5 := Rd.row hs594
    have le596 : y585.f5.length ≤ c590 := Row.le hs594
    refine TK.sel (Ls := [Blk b9 [.map (some b7), .map (some b8)] 83, Mp Try.prog 3 3 b7 x253, Mp Try.prog 3 3 b8 x254, Blk b561 [.int .i64 y585.f0, .int .i64 y585.f1, .int .i64 y585.f2, .int .i64 y585.f3, .int .i64 y585.f4, .slice A589 y585.f5.length c590] 30, Blk b10 [.slice A250 l249.length c251, .int .i64 0, .int .i64 0, .int .i64 0, .int .i64 0] 28, Blk b5 [.slice A1 a0.f0.length c2, .int .i64 a0.f1.f0, .int .i64 a0.f1.f1, .int .i64 a0.f1.f2, .int .i64 a0.f1.f3] 28, Blk b6 [.slice none 0 0, .int .i64 0, .int .i64 0, .int .i64 0, .int .i64 0] 28, Row (Sh G246 k30) 30 (.slice A250 l249.length c251) l249]) [1, 0, 2, 3, 4, 5, 6, 7] 8 rfl rfl rfl ?_
    obtain ⟨y597, hy598, h⟩ := bind_no h
    refine TL.cons (TL.callV (Lin := [Blk b9 [.map (some b7), .map (some b8)] 83, Mp Try.prog 3 3 b7 x253, Mp Try.prog 3 3 b8 x254]) (args := [.pointer (some ⟨b9, 0, none⟩), .agg #[.int .i64 y585.f0, .int .i64 y585.f1, .int .i64 y585.f2, .int .i64 y585.f3, .int .i64 y585.f4, .slice A589 y585.f5.length c590]]) rfl rfl rfl hbd56 rfl rfl (fold_facts_learn.calls (a0_0_0 := x253) (a0_1_0 := x254) (a1 := y585) rd595 le596 hy598) rfl ?_)
    rintro _ _ _ _ ⟨rfl, rfl, rfl⟩
    refine TL.nil ?_
    refine TQ.then_ ?_
    refine TC.region ?_
    refine TL.cons (TO.val rfl rfl rfl (Val.fieldAddrB Try.underlying28 rfl fsz26 rfl rfl rfl) ?_)
    refine TL.cons (TO.val rfl rfl rfl (Val.loadB 4 agg26 rfl rfl rfl) ?_)
    refine TL.cons (TO.val rfl rfl rfl (Val.loadsB 3 (cs := [.int .i64 y585.f0, .int .i64 y585.f1, .int .i64 y585.f2, .int .i64 y585.f3, .int .i64 y585.f4, .slice A589 y585.f5.length c590]) agg30 fsz30 rfl rfl rfl rfl) ?_)
    refine TL.cons (TL.buildSlice (xs := [.tmp 31]) (vs := [.agg #[.int .i64 y585.f0, .int .i64 y585.f1, .int .i64 y585.f2, .int .i64 y585.f3, .int .i64 y585.f4, .slice A589 y585.f5.length c590]]) (cs := [.int .i64 y585.f0, .int .i64 y585.f1, .int .i64 y585.f2, .int .i64 y585.f3, .int .i64 y585.f4, .slice A589 y585.f5.length c590]) rfl rfl Try.underlying26 zs30 rfl rfl rfl rfl rfl rfl rfl rfl (fun b599 => ?_))
    refine TK.new (El.of (k := (Sh G592 k30)) (xv := y585) (cs := [.int .i64 y585.f0, .int .i64 y585.f1, .int .i64 y585.f2, .int .i64 y585.f3, .int .i64 y585.f4, .slice A589 y585.f5.length c590]) (fun W B => Sh.mk (fun W hW => k30_mk W y585 le596 (rd595 W hW)) W B _)) ?_
    refine TK.sel (Ls := [Row (Sh G246 k30) 30 (.slice A250 l249.length c251) l249, El (Sh G592 k30) y585 [.int .i64 y585.f0, .int .i64 y585.f1, .int .i64 y585.f2, .int .i64 y585.f3, .int .i64 y585.f4, .slice A589 y585.f5.length c590], Blk b599 [.int .i64 y585.f0, .int .i64 y585.f1, .int .i64 y585.f2, .int .i64 y585.f3, .int .i64 y585.f4, .slice A589 y585.f5.length c590] 30, Blk b9 [.map (some b7), .map (some b8)] 83, Mp Try.prog 3 3 b7 y597.1, Mp Try.prog 3 3 b8 y597.2, Blk b561 [.int .i64 y585.f0, .int .i64 y585.f1, .int .i64 y585.f2, .int .i64 y585.f3, .int .i64 y585.f4, .slice A589 y585.f5.length c590] 30, Blk b10 [.slice A250 l249.length c251, .int .i64 0, .int .i64 0, .int .i64 0, .int .i64 0] 28, Blk b5 [.slice A1 a0.f0.length c2, .int .i64 a0.f1.f0, .int .i64 a0.f1.f1, .int .i64 a0.f1.f2, .int .i64 a0.f1.f3] 28, Blk b6 [.slice none 0 0, .int .i64 0, .int .i64 0, .int .i64 0, .int .i64 0] 28]) [9, 0, 1, 2, 3, 4, 5, 6, 7, 8] 10 rfl rfl rfl ?_
    refine TK.conv (ch' := Row (Sh G592 k30) 30 (.slice A250 l249.length c251) l249) (fun B W F hh => Row.sh (Gd.le.trans (Gd.le.trans e580 e588) e593) B W F hh) ?_
    refine TK.sel (Ls := [El (Sh G592 k30) y585 [.int .i64 y585.f0, .int .i64 y585.f1, .int .i64 y585.f2, .int .i64 y585.f3, .int .i64 y585.f4, .slice A589 y585.f5.length c590], Row (Sh G592 k30) 30 (.slice A250 l249.length c251) l249, Blk b599 [.int .i64 y585.f0, .int .i64 y585.f1, .int .i64 y585.f2, .int .i64 y585.f3, .int .i64 y585.f4, .slice A589 y585.f5.length c590] 30, Blk b9 [.map (some b7), .map (some b8)] 83, Mp Try.prog 3 3 b7 y597.1, Mp Try.prog 3 3 b8 y597.2, Blk b561 [.int .i64 y585.f0, .int .i64 y585.f1, .int .i64 y585.f2, .int .i64 y585.f3, .int .i64 y585.f4, .slice A589 y585.f5.length c590] 30, Blk b10 [.slice A250 l249.length c251, .int .i64 0, .int .i64 0, .int .i64 0, .int .i64 0] 28, Blk b5 [.slice A1 a0.f0.length c2, .int .i64 a0.f1.f0, .int .i64 a0.f1.f1, .int .i64 a0.f1.f2, .int .i64 a0.f1.f3] 28, Blk b6 [.slice none 0 0, .int .i64 0, .int .i64 0, .int .i64 0, .int .i64 0] 28]) [1, 0, 2, 3, 4, 5, 6, 7, 8, 9] 10 rfl rfl rfl ?_
    refine TK.sel (Ls := [Row (Sh G592 k30) 30 (.slice A250 l249.length c251) l249, El (Sh G592 k30) y585 [.int .i64 y585.f0, .int .i64 y585.f1, .int .i64 y585.f2, .int .i64 y585.f3, .int .i64 y585.f4, .slice A589 y585.f5.length c590], Blk b599 [.int .i64 y585.f0, .int .i64 y585.f1, .int .i64 y585.f2, .int .i64 y585.f3, .int .i64 y585.f4, .slice A589 y585.f5.length c590] 30, Blk b9 [.map (some b7), .map (some b8)] 83, Mp Try.prog 3 3 b7 y597.1, Mp Try.prog 3 3 b8 y597.2, Blk b561 [.int .i64 y585.f0, .int .i64 y585.f1, .int .i64 y585.f2, .int .i64 y585.f3, .int .i64 y585.f4, .slice A589 y585.f5.length c590] 30, Blk b10 [.slice A250 l249.length c251, .int .i64 0, .int .i64 0, .int .i64 0, .int .i64 0] 28, Blk b5 [.slice A1 a0.f0.length c2, .int .i64 a0.f1.f0, .int .i64 a0.f1.f1, .int .i64 a0.f1.f2, .int .i64 a0.f1.f3] 28, Blk b6 [.slice none 0 0, .int .i64 0, .int .i64 0, .int .i64 0, .int .i64 0] 28]) [1, 0, 2, 3, 4, 5, 6, 7, 8, 9] 10 rfl rfl rfl ?_
    obtain ⟨ha600, h⟩ := ite_no h
    refine TL.cons (TL.append (xs := l249) (Sh G592 k30) rfl rfl Try.underlying26 inf30 rfl (Nat.le_of_ble_eq_true rfl) (Nat.le_of_ble_eq_true rfl) rfl rfl (by omega) (fun A601 c602 => ?_))
    refine TL.cons (TO.val rfl rfl rfl (Val.fieldAddrB Try.underlying28 rfl fsz26 rfl rfl rfl) ?_)
    refine TL.cons (TL.store 5 (ds := [.slice A601 (l249 ++ [y585]).length c602]) (cs' := [.slice A601 (l249 ++ [y585]).length c602, .int .i64 0, .int .i64 0, .int .i64 0, .int .i64 0]) (L' := (Row (Sh G592 k30) 30 (.slice A601 (l249 ++ [y585]).length c602) (l249 ++ [y585]) :: Blk b9 [.map (some b7), .map (some b8)] 83 :: Mp Try.prog 3 3 b7 y597.1 :: Mp Try.prog 3 3 b8 y597.2 :: Blk b561 [.int .i64 y585.f0, .int .i64 y585.f1, .int .i64 y585.f2, .int .i64 y585.f3, .int .i64 y585.f4, .slice A589 y585.f5.length c590] 30 :: Blk b10 [.slice A601 (l249 ++ [y585]).length c602, .int .i64 0, .int .i64 0, .int .i64 0, .int .i64 0] 28 :: Blk b5 [.slice A1 a0.f0.length c2, .int .i64 a0.f1.f0, .int .i64 a0.f1.f1, .int .i64 a0.f1.f2, .int .i64 a0.f1.f3] 28 :: Blk b6 [.slice none 0 0, .int .i64 0, .int .i64 0, .int .i64 0, .int .i64 0] 28 :: L)) rfl fsz26 rfl rfl rfl rfl rfl (Nat.le_of_ble_eq_true rfl) rfl rfl ?_)
    refine TL.nil ?_
    refine TQ.inB ?_
    refine TQ.then_ ?_
    refine TC.region ?_
    refine TL.cons (TO.val rfl rfl rfl (Val.cmp rfl rfl run_add) ?_)
    refine TL.cons (TO.val rfl rfl rfl (Val.move rfl) ?_)
    refine TL.nil ?_
    exact fun a W hF hO => ⟨IntKind.i64.wrap (x248 + 1), (l249 ++ [y585]), y597.1, y597.2, G592, A601, c602, h, (Gd.le.trans (Gd.le.trans (Gd.le.trans e247 e580) e588) e593), hF.sub ⟨rfl, rfl, rfl, rfl, rfl, rfl, rfl, trivial⟩, hO.selT (Ls := [Blk b10 [.slice A601 (l249 ++ [y585]).length c602, .int .i64 0, .int .i64 0, .int .i64 0, .int .i64 0] 28, Blk b5 [.slice A1 a0.f0.length c2, .int .i64 a0.f1.f0, .int .i64 a0.f1.f1, .int .i64 a0.f1.f2, .int .i64 a0.f1.f3] 28, Blk b6 [.slice none 0 0, .int .i64 0, .int .i64 0, .int .i64 0, .int .i64 0] 28, Blk b9 [.map (some b7), .map (some b8)] 83, Mp Try.prog 3 3 b7 y597.1, Mp Try.prog 3 3 b8 y597.2, Row (Sh G592 k30) 30 (.slice A601 (l249 ++ [y585]).length c602) (l249 ++ [y585])]) [5, 6, 7, 1, 2, 3, 0] 8 rfl rfl rfl⟩
   ·
    refine TC.exit ?_
    refine TQ.thenX ?_
    refine TQ.thenX ?_
    refine TQ.inBX ?_
    exact fun a W hF hO => ⟨l249, x253, x254, G246, A250, c251, Option.some.inj h, e247, hF.sub ⟨rfl, rfl, rfl, rfl, trivial⟩, hO.selT (Ls := [Blk b10 [.slice A250 l249.length c251, .int .i64 0, .int .i64 0, .int .i64 0, .int .i64 0] 28, Blk b5 [.slice A1 a0.f0.length c2, .int .i64 a0.f1.f0, .int .i64 a0.f1.f1, .int .i64 a0.f1.f2, .int .i64 a0.f1.f3] 28, Blk b6 [.slice none 0 0, .int .i64 0, .int .i64 0, .int .i64 0, .int .i64 0] 28, Blk b9 [.map (some b7), .map (some b8)] 83, Mp Try.prog 3 3 b7 x253, Mp Try.prog 3 3 b8 x254, Row (Sh G246 k30) 30 (.slice A250 l249.length c251) l249]) [0, 1, 2, 3, 4, 5, 6] 7 rfl rfl rfl⟩
end Go.Proofs.Ytmacdhkfgoahcaa.Sy
set_option linter.unusedVariables false
set_option linter.unusedSimpArgs false
set_option maxRecDepth 100000
set_option maxHeartbeats 4000000
namespace Go.Proofs.Ytmacdhkfgoahcaa.Sy
open Go Go.RowKit Go.Proofs.YtmacdhkfgoahcaaW.PrintWords 
def slices_Clone_api_Block_api_Block.f (a0 : (List S28)) : Option (List S28) := (if ([] : List S28).length + a0.length ≤ 2513169434916 then some (([] : List S28) ++ a0) else none)
def slices_Clone_api_Block_api_Block.post (G : Gd)  (r : (List S28)) (v : Value) (G' : Gd) (Lr : List Ch) : Prop := G = G' ∧ ∃ (A_1 : Option Addr) (c_1 : Nat), v = .slice A_1 r.length c_1 ∧ Lr = [Row (Sh G k28) 28 (.slice A_1 r.length c_1) r]
theorem slices_Clone_api_Block_api_Block.calls {G : Gd} {r : (List S28)} {a0 : (List S28)} {A1 : Option Addr} {c2 : Nat} (hr3 : Rd G k28 A1 a0) (hl4 : a0.length ≤ c2) (h : slices_Clone_api_Block_api_Block.f a0 = some r) : Fn Try.prog 39 G [] [.slice A1 a0.length c2] (slices_Clone_api_Block_api_Block.post G  r) := by
 refine Fn.intro (e := [(0, .slice A1 a0.length c2)]) 8 Try.func39 rfl Try.ntmps39 rfl rfl (Nat.le_of_ble_eq_true rfl) (fun L => ?_)
 unfold slices_Clone_api_Block_api_Block.f at h
 refine TC.seq ?_
 refine TC.region ?_
 refine TL.cons (TO.val rfl rfl rfl (Val.assign rfl) ?_)
 refine TL.nil ?_
 refine TQ.then_ ?_
 refine TC.seq ?_
 refine TC.seq ?_
 refine TC.region ?_
 refine TL.cons (TO.val rfl rfl rfl (Val.move rfl) ?_)
 refine TL.cons (TO.val rfl rfl rfl (Val.eqNil Try.underlying34 rfl) ?_)
 refine TL.nil ?_
 refine TQ.then_ ?_
 refine TC.cond rfl (fun hc6 => ?_) (fun hc6 => ?_)
 ·
  have hn := Rd.nilEq hr3 hc6
  have h : some ([] : List S28) = some r := by first | (simpa [hn] using h) | (simp [hn] at h; simp [h, hn])
  refine TC.seq ?_
  refine TC.region ?_
  refine TL.cons (TO.val rfl rfl rfl (Val.assign rfl) ?_)
  refine TL.nil ?_
  refine TQ.then_ ?_
  refine TC.ret ?_
  refine TQ.thenR ?_
  refine TQ.nilRow (Sh G k28) 28 ?_
  obtain rfl := Option.some.inj h
  exact TQ.fin (.inl rfl) rfl Try.results39 (.tmp rfl .nil) rfl (FRel.mk (Ls := [Row (Sh G k28) 28 (.slice none 0 0) ([] : List S28)]) [0] 1 (Gd.le.refl _) rfl rfl rfl ⟨rfl, none, 0, rfl, rfl⟩)
 ·
  refine TC.skip ?_
  refine TQ.then_ ?_
  refine TC.seq ?_
  refine TC.region ?_
  refine TL.cons (TL.buildSlice0 k28 rfl rfl Try.underlying34 zs28 (fun b8 => ?_))
  refine TL.cons (TO.val rfl rfl rfl (Val.move rfl) ?_)
  refine TK.conv (ch' := Row (Sh G k28) 28 (.slice (some ⟨b8, 0, none⟩) 0 0) ([] : List S28)) (fun B W F hh => Row.empty k28 (Sh G k28) rfl B W F hh) ?_
  obtain ⟨ha10, h⟩ := ite_no h
  refine TL.cons (TL.appendR (xs := ([] : List S28)) (ys := a0) (Sh G k28) (Sh G k28) rfl rfl Try.underlying34 inf28 rfl (Nat.le_of_ble_eq_true rfl) (Nat.le_of_ble_eq_true rfl) rfl rfl (by omega) (Rd.sh hr3) rfl (fun _ _ _ _ _ h => h) (fun A11 c12 => ?_))
  refine TL.cons (TO.val rfl rfl rfl (Val.assign rfl) ?_)
  refine TL.nil ?_
  refine TQ.then_ ?_
  refine TC.ret ?_
  obtain rfl := Option.some.inj h
  exact TQ.fin (.inl rfl) rfl Try.results39 (.tmp rfl .nil) rfl (FRel.mk (Ls := [Row (Sh G k28) 28 (.slice A11 (([] : List S28) ++ a0).length c12) (([] : List S28) ++ a0)]) [0] 1 (Gd.le.refl _) rfl rfl rfl ⟨rfl, A11, c12, rfl, rfl⟩)
end Go.Proofs.Ytmacdhkfgoahcaa.Sy
set_option linter.unusedVariables false
set_option linter.unusedSimpArgs false
set_option maxRecDepth 100000
set_option maxHeartbeats 4000000
namespace Go.Proofs.Ytmacdhkfgoahcaa.Sy
open Go Go.RowKit Go.Proofs.YtmacdhkfgoahcaaW.PrintWords 
def fold_Func.l0 (y7 : (List S28)) : Nat → (List S28) → Int → Option ((List S28))
 | 0, _, _ => none
 | n951 + 1, l786, x791 => (if x791 < (y7.length : Int) then (at? l786 x791).bind fun y1188 => (fold_Block.f y1188).bind fun (y1238 : S28) => (at? l786 x791).bind fun y1245 => fold_Func.l0 y7 n951 (l786.set x791.toNat y1238) (IntKind.i64.wrap (x791 + 1)) else some l786)
def fold_Func.f (a0 : S36) : Option S36 := (slices_Clone_api_Block_api_Block.f a0.f1).bind fun (y7 : (List S28)) => (fold_Func.l0 y7 (y7.length + 1) y7 0).bind fun (l946 : (List S28)) => some (⟨a0.f0, l946⟩ : S36)
def fold_Func.post (G : Gd)  (r : S36) (v : Value) (G' : Gd) (Lr : List Ch) : Prop := ∃ (A_1 : Option Addr) (c_1 : Nat), v = .agg #[.int .i64 r.f0, .slice A_1 r.f1.length c_1] ∧ Lr = [Row (Sh G' k28) 28 (.slice A_1 r.f1.length c_1) r.f1]
theorem fold_Func.calls {G : Gd} {r : S36} {a0 : S36} {A1 : Option Addr} {c2 : Nat} (hr3 : Rd G k28 A1 a0.f1) (hl4 : a0.f1.length ≤ c2) (h : fold_Func.f a0 = some r) : Fn Try.prog 30 G [] [.agg #[.int .i64 a0.f0, .slice A1 a0.f1.length c2]] (fold_Func.post G  r) := by
 refine Fn.intro (e := [(0, .agg #[.int .i64 a0.f0, .slice A1 a0.f1.length c2])]) 25 Try.func30 rfl Try.ntmps30 rfl rfl (Nat.le_of_ble_eq_true rfl) (fun L => ?_)
 unfold fold_Func.f at h
 refine TC.seq ?_
 refine TC.region ?_
 refine TL.cons (TL.box (cs := [.int .i64 a0.f0, .slice A1 a0.f1.length c2]) rfl rfl rfl rfl (fun b5 => ?_))
 refine TL.cons (TL.alloc (cs := [.int .i64 0, .slice none 0 0]) rfl rfl zr36 rfl (fun b6 => ?_))
 refine TL.nil ?_
 refine TQ.then_ ?_
 refine TC.seq ?_
 refine TC.region ?_
 refine TL.cons (TO.val rfl rfl rfl (Val.fieldAddrB Try.underlying36 rfl fsz34 rfl rfl rfl) ?_)
 refine TL.cons (TO.val rfl rfl rfl (Val.loadB 1 agg34 rfl rfl rfl) ?_)
 obtain ⟨y7, hy8, h⟩ := bind_no h
 refine TL.cons (TL.callV (Lin := []) (args := [.slice A1 a0.f1.length c2]) rfl rfl rfl hbd39 rfl rfl (slices_Clone_api_Block_api_Block.calls (a0 := a0.f1) hr3 hl4 hy8) rfl ?_)
 rintro _ _ _ _ ⟨rfl, A9, c10, rfl, rfl⟩
 refine TL.cons (TO.val rfl rfl rfl (Val.fieldAddrB Try.underlying36 rfl fsz34 rfl rfl rfl) ?_)
 refine TL.cons (TL.store 2 (ds := [.slice A9 y7.length c10]) (cs' := [.int .i64 a0.f0, .slice A9 y7.length c10]) (L' := (Row (Sh G k28) 28 (.slice A9 y7.length c10) y7 :: Blk b6 [.int .i64 0, .slice none 0 0] 36 :: Blk b5 [.int .i64 a0.f0, .slice A9 y7.length c10] 36 :: L)) rfl fsz34 rfl rfl rfl rfl rfl (Nat.le_of_ble_eq_true rfl) rfl rfl ?_)
 refine TL.nil ?_
 refine TQ.then_ ?_
 refine TC.seq ?_
 refine TC.seq ?_
 refine TC.region ?_
 refine TL.cons (TO.val rfl rfl rfl (Val.fieldAddrB Try.underlying36 rfl fsz34 rfl rfl rfl) ?_)
 refine TL.cons (TO.val rfl rfl rfl (Val.loadB 2 agg34 rfl rfl rfl) ?_)
 refine TL.cons (TO.val rfl rfl rfl (Val.len Try.underlying34 rfl) ?_)
 refine TL.cons (TO.val rfl rfl rfl (Val.move rfl) ?_)
 refine TL.nil ?_
 refine TQ.then_ ?_
 obtain ⟨o950, ho950, ko950⟩ := bind_no h
 clear h
 refine TC.tail (fun a W => ∃ (l946 : (List S28)) (G944 : Gd) (A947 : Option Addr) (c948 : Nat), l946 = o950 ∧ G.le G944 ∧ Fr 25 a [(1, .pointer (some ⟨b5, 0, none⟩)), (2, .pointer (some ⟨b6, 0, none⟩))] ∧ Own G944 (Blk b5 [.int .i64 a0.f0, .slice A947 l946.length c948] 36 :: Blk b6 [.int .i64 0, .slice none 0 0] 36 :: Row (Sh G944 k28) 28 (.slice A947 l946.length c948) l946 :: L) W) ?_ ?_
 ·
  rintro a W ⟨l946, G944, A947, c948, rfl, e945, hF, hO⟩
  have h := ko950
  clear ko950 ho950
  refine TQ.use ?_ hF hO
  clear hF hO
  refine TQ.then_ ?_
  refine TC.seq ?_
  refine TC.region ?_
  refine TL.cons (TO.val rfl rfl rfl (Val.loadsB 0 (cs := [.int .i64 a0.f0, .slice A947 l946.length c948]) agg36 fsz36 rfl rfl rfl rfl) ?_)
  refine TL.cons (TL.store 1 (ds := [.int .i64 a0.f0, .slice A947 l946.length c948]) (cs' := [.int .i64 a0.f0, .slice A947 l946.length c948]) (L' := (Blk b5 [.int .i64 a0.f0, .slice A947 l946.length c948] 36 :: Blk b6 [.int .i64 a0.f0, .slice A947 l946.length c948] 36 :: Row (Sh G944 k28) 28 (.slice A947 l946.length c948) l946 :: L)) rfl fsz36 rfl rfl rfl rfl rfl (Nat.le_of_ble_eq_true rfl) rfl rfl ?_)
  refine TL.nil ?_
  refine TQ.then_ ?_
  refine TC.ret ?_
  obtain rfl := Option.some.inj h
  exact TQ.fin (.inl rfl) rfl Try.results30 (.cells 1 rfl rfl agg36 fsz36 .nil) rfl (FRel.mk (Ls := [Row (Sh G944 k28) 28 (.slice A947 l946.length c948) l946]) [2] 3 e945 rfl rfl rfl ⟨A947, c948, rfl, rfl⟩)
 ·
  refine TC.block ?_
  intro a W hF hO
  have hS : ∃ (l786 : (List S28)) (x791 : Int) (G784 : Gd) (A787 : Option Addr) (c788 : Nat), fold_Func.l0 y7 (y7.length + 1) l786 x791 = some o950 ∧ G.le G784 ∧ l786.length = y7.length ∧ Fr 25 a [(1, .pointer (some ⟨b5, 0, none⟩)), (2, .pointer (some ⟨b6, 0, none⟩)), (10, .slice A787 l786.length c788), (11, .int .i64 (y7.length : Int)), (12, .int .i64 x791)] ∧ Own G784 (Blk b5 [.int .i64 a0.f0, .slice A787 l786.length c788] 36 :: Blk b6 [.int .i64 0, .slice none 0 0] 36 :: Row (Sh G784 k28) 28 (.slice A787 l786.length c788) l786 :: L) W := by
   exact ⟨y7, 0, G, A9, c10, ho950, (Gd.le.refl _), (by first | rfl | assumption | omega | (simp only [List.length_set]; first | rfl | assumption | omega)), hF.sub ⟨rfl, rfl, rfl, rfl, rfl, trivial⟩, hO.selT (Ls := [Blk b5 [.int .i64 a0.f0, .slice A9 y7.length c10] 36, Blk b6 [.int .i64 0, .slice none 0 0] 36, Row (Sh G k28) 28 (.slice A9 y7.length c10) y7]) [2, 1, 0] 3 rfl rfl rfl⟩
  clear hF hO ho950 ko950
  refine TC.loop (fun n951 a W => ∃ (l786 : (List S28)) (x791 : Int) (G784 : Gd) (A787 : Option Addr) (c788 : Nat), fold_Func.l0 y7 n951 l786 x791 = some o950 ∧ G.le G784 ∧ l786.length = y7.length ∧ Fr 25 a [(1, .pointer (some ⟨b5, 0, none⟩)), (2, .pointer (some ⟨b6, 0, none⟩)), (10, .slice A787 l786.length c788), (11, .int .i64 (y7.length : Int)), (12, .int .i64 x791)] ∧ Own G784 (Blk b5 [.int .i64 a0.f0, .slice A787 l786.length c788] 36 :: Blk b6 [.int .i64 0, .slice none 0 0] 36 :: Row (Sh G784 k28) 28 (.slice A787 l786.length c788) l786 :: L) W) ?_ ?_ hS
  ·
   rintro a W ⟨l786, x791, G784, A787, c788, h, e785, hl790, hF, hO⟩
   exact none_no h
  ·
   clear hS
   rintro n951 a W ⟨l786, x791, G784, A787, c788, h, e785, hl790, hF, hO⟩
   rw [fold_Func.l0] at h
   refine TC.use ?_ hF hO
   clear hF hO
   refine TC.seq ?_
   refine TC.region ?_
   refine TL.cons (TO.val rfl rfl rfl (Val.cmp rfl rfl run_lss) ?_)
   refine TL.nil ?_
   refine TQ.then_ ?_
   refine TC.seq ?_
   refine TC.cond_p rfl h (fun hc1105 h => ?_) (fun hc1105 h => ?_)
   ·
    refine TC.skip ?_
    refine TQ.then_ ?_
    refine TC.seq ?_
    refine TC.block ?_
    refine TC.seq ?_
    refine TC.region ?_
    refine TL.cons (TO.val rfl rfl rfl (Val.move rfl) ?_)
    refine TK.sel (Ls := [Row (Sh G784 k28) 28 (.slice A787 l786.length c788) l786, Blk b5 [.int .i64 a0.f0, .slice A787 l786.length c788] 36, Blk b6 [.int .i64 0, .slice none 0 0] 36]) [2, 0, 1] 3 rfl rfl rfl ?_
    refine TK.share (fun G1181 e1182 hs1183 hb1184 => ?_)
    have rd1185 : Rd G1181 k28 A787 l786 := Rd.unsh (Rd.row hs1183) e1182
    have le1186 : l786.length ≤ c788 := Row.le hs1183
    have rd1187 := Rd.row hs1183
    obtain ⟨y1188, hx1189, h⟩ := bind_no h
    obtain ⟨ad1190, cs1196, hA1191, hi1192, hj1193, hcl1194, hK1195⟩ := Rd.at rd1187 hx1189
    have hK1195 := (hK1195 _ (Gd.self _)).2.2
    obtain ⟨A1197, c1198, rfl, hr1199, hl1200⟩ := k28_openR hK1195
    refine TL.cons (TO.val rfl rfl rfl (Val.indexAddr Try.underlying34 fsz28 rfl hA1191 rfl hi1192 hj1193) ?_)
    refine TL.cons (TO.val rfl rfl rfl (Val.loadsS (cs := [.slice A1197 y1188.f0.length c1198, .int .i64 y1188.f1.f0, .int .i64 y1188.f1.f1, .int .i64 y1188.f1.f2, .int .i64 y1188.f1.f3]) agg28 fsz28 rfl rfl (Cl.sub (off := 0) (n := 5) hcl1194 rfl)) ?_)
    refine TL.cons (TL.alloc (cs := [.slice none 0 0, .int .i64 0, .int .i64 0, .int .i64 0, .int .i64 0]) rfl rfl zr28 rfl (fun b1201 => ?_))
    refine TL.cons (TO.val rfl rfl rfl (Val.assign rfl) ?_)
    refine TL.cons (TL.store 0 (ds := [.slice A1197 y1188.f0.length c1198, .int .i64 y1188.f1.f0, .int .i64 y1188.f1.f1, .int .i64 y1188.f1.f2, .int .i64 y1188.f1.f3]) (cs' := [.slice A1197 y1188.f0.length c1198, .int .i64 y1188.f1.f0, .int .i64 y1188.f1.f1, .int .i64 y1188.f1.f2, .int .i64 y1188.f1.f3]) (L' := (Blk b1201 [.slice A1197 y1188.f0.length c1198, .int .i64 y1188.f1.f0, .int .i64 y1188.f1.f1, .int .i64 y1188.f1.f2, .int .i64 y1188.f1.f3] 28 :: Blk b5 [.int .i64 a0.f0, .slice A787 l786.length c788] 36 :: Blk b6 [.int .i64 0, .slice none 0 0] 36 :: L)) rfl fsz28 rfl rfl rfl rfl rfl (Nat.le_of_ble_eq_true rfl) rfl rfl ?_)
    refine TL.nil ?_
    refine TQ.then_ ?_
    refine TC.back hb1184 ?_
    refine TC.regionAny [6] [0, 1, 2, 3, 5] mixed (by kernel_rfl) ?_
    refine TA.take 0 rfl (by kernel_rfl) rfl (PQ.inB (PQ.then_ (PQ.then_ (PQ.inB (PQ.then_ (PQ.then_ PQ.body)))))) rfl (Val.fieldAddrB Try.underlying36 rfl fsz34 rfl rfl rfl) (fun W hO => hO) ?_
    refine TA.take 1 rfl (by kernel_rfl) rfl (PQ.inB (PQ.then_ (PQ.then_ (PQ.inB (PQ.then_ (PQ.then_ PQ.body)))))) rfl (Val.loadB 2 agg34 rfl rfl rfl) (fun W hO => hO) ?_
    refine TA.take 2 rfl (by kernel_rfl) rfl (PQ.inB (PQ.then_ (PQ.then_ (PQ.inB (PQ.then_ (PQ.then_ PQ.body)))))) rfl (Val.move rfl) (fun W hO => hO) ?_
    refine TA.take 3 rfl (by kernel_rfl) rfl (PQ.inB (PQ.then_ (PQ.then_ (PQ.inB (PQ.then_ (PQ.then_ PQ.body)))))) rfl (Val.loadsB 1 (cs := [.slice A1197 y1188.f0.length c1198, .int .i64 y1188.f1.f0, .int .i64 y1188.f1.f1, .int .i64 y1188.f1.f2, .int .i64 y1188.f1.f3]) agg28 fsz28 rfl rfl rfl rfl) (fun W hO => hO) ?_
    obtain ⟨y1238, hy1239, h⟩ := bind_no h
    refine TA.eff 4 rfl (by kernel_rfl) rfl (TL.callV (Lin := []) (args := [.agg #[.slice A1197 y1188.f0.length c1198, .int .i64 y1188.f1.f0, .int .i64 y1188.f1.f1, .int .i64 y1188.f1.f2, .int .i64 y1188.f1.f3]]) rfl rfl rfl hbd28 rfl rfl (fold_Block.calls (a0 := y1188) hr1199 hl1200 hy1239) rfl ?_)
    rintro _ G1240 _ e1241 ⟨A1242, c1243, rfl, rfl⟩
    refine TA.next (fun W hO => (Own.weak e1241 hO).selT (Ls := [Row (Sh G784 k28) 28 (.slice A787 l786.length c788) l786, Blk b1201 [.slice A1197 y1188.f0.length c1198, .int .i64 y1188.f1.f0, .int .i64 y1188.f1.f1, .int .i64 y1188.f1.f2, .int .i64 y1188.f1.f3] 28, Blk b5 [.int .i64 a0.f0, .slice A787 l786.length c788] 36, Blk b6 [.int .i64 0, .slice none 0 0] 36]) [1, 2, 3, 4] 5 rfl rfl rfl) ?_
    obtain ⟨y1245, hy1246, h⟩ := bind_no h
    refine TK.opened 1 rfl hy1246 (fun b1247 hA1248 hi1249 hj1250 => ?_)
    refine TA.take 5 rfl (by kernel_rfl) rfl (PQ.inB (PQ.then_ (PQ.then_ (PQ.inB (PQ.then_ (PQ.then_ PQ.body)))))) rfl (Val.indexAddrW Try.underlying34 fsz28 rfl hA1248 rfl hi1249 hj1250) (fun W hO => (Own.weak e1241 hO).selT (Ls := [Row (Sh G784 k28) 28 (.slice A787 l786.length c788) l786, Blk b1201 [.slice A1197 y1188.f0.length c1198, .int .i64 y1188.f1.f0, .int .i64 y1188.f1.f1, .int .i64 y1188.f1.f2, .int .i64 y1188.f1.f3] 28, Blk b5 [.int .i64 a0.f0, .slice A787 l786.length c788] 36, Blk b6 [.int .i64 0, .slice none 0 0] 36]) [1, 2, 3, 4] 5 rfl rfl rfl) ?_
    refine TK.share (fun G1251 e1252 hs1253 _ => ?_)
    have rd1254 : Rd G1251 k30 A1242 y1238.f0 := Rd.unsh (Rd.row hs1253) e1252
    have le1255 : y1238.f0.length ≤ c1243 := Row.le hs1253
    refine TK.new (El.of (k := (Sh G1251 k28)) (xv := y1238) (cs := [.slice A1242 y1238.f0.length c1243, .int .i64 y1238.f1.f0, .int .i64 y1238.f1.f1, .int .i64 y1238.f1.f2, .int .i64 y1238.f1.f3]) (fun W B => Sh.mk (fun W hW => k28_mk W y1238 le1255 (rd1254 W hW)) W B _)) ?_
    refine TK.sel (Ls := [Row (Sh G784 k28) 28 (.slice A787 l786.length c788) l786, El (Sh G1251 k28) y1238 [.slice A1242 y1238.f0.length c1243, .int .i64 y1238.f1.f0, .int .i64 y1238.f1.f1, .int .i64 y1238.f1.f2, .int .i64 y1238.f1.f3], Blk b1201 [.slice A1197 y1188.f0.length c1198, .int .i64 y1188.f1.f0, .int .i64 y1188.f1.f1, .int .i64 y1188.f1.f2, .int .i64 y1188.f1.f3] 28, Blk b5 [.int .i64 a0.f0, .slice A787 l786.length c788] 36, Blk b6 [.int .i64 0, .slice none 0 0] 36]) [1, 0, 2, 3, 4] 5 rfl rfl rfl ?_
    refine TK.conv (ch' := Row (Sh G1251 k28) 28 (.slice A787 l786.length c788) l786) (fun B W F hh => Row.sh (Gd.le.trans e1241 e1252) B W F hh) ?_
    refine TA.eff 6 rfl (by kernel_rfl) rfl (TL.storeE (Sh G1251 k28) (xs := l786) (xv := y1238) (ds := [.slice A1242 y1238.f0.length c1243, .int .i64 y1238.f1.f0, .int .i64 y1238.f1.f1, .int .i64 y1238.f1.f2, .int .i64 y1238.f1.f3]) rfl fsz28 hA1248 hy1246 rfl rfl rfl rfl (Nat.le_of_ble_eq_true rfl) (wholeM rfl) ?_)
    refine TA.last rfl ?_
    rw [show (l786.length : Nat) = (l786.set x791.toNat y1238).length from by simp only [List.length_set]]
    refine TA.done (by kernel_rfl) ?_
    refine TQ.inB ?_
    refine TQ.then_ ?_
    refine TC.region ?_
    refine TL.cons (TO.val rfl rfl rfl (Val.cmp rfl rfl run_add) ?_)
    refine TL.cons (TO.val rfl rfl rfl (Val.move rfl) ?_)
    refine TL.nil ?_
    exact fun a W hF hO => ⟨(l786.set x791.toNat y1238), IntKind.i64.wrap (x791 + 1), G1251, A787, c788, h, (Gd.le.trans (Gd.le.trans e785 e1241) e1252), (by first | rfl | assumption | omega | (simp only [List.length_set]; first | rfl | assumption | omega)), hF.sub ⟨rfl, rfl, rfl, rfl, rfl, trivial⟩, hO.selT (Ls := [Blk b5 [.int .i64 a0.f0, .slice A787 (l786.set x791.toNat y1238).length c788] 36, Blk b6 [.int .i64 0, .slice none 0 0] 36, Row (Sh G1251 k28) 28 (.slice A787 (l786.set x791.toNat y1238).length c788) (l786.set x791.toNat y1238)]) [2, 3, 0] 4 rfl rfl rfl⟩
   ·
    refine TC.exit ?_
    refine TQ.thenX ?_
    refine TQ.thenX ?_
    refine TQ.inBX ?_
    exact fun a W hF hO => ⟨l786, G784, A787, c788, Option.some.inj h, e785, hF.sub ⟨rfl, rfl, trivial⟩, hO.selT (Ls := [Blk b5 [.int .i64 a0.f0, .slice A787 l786.length c788] 36, Blk b6 [.int .i64 0, .slice none 0 0] 36, Row (Sh G784 k28) 28 (.slice A787 l786.length c788) l786]) [0, 1, 2] 3 rfl rfl rfl⟩
end Go.Proofs.Ytmacdhkfgoahcaa.Sy
set_option linter.unusedVariables false
set_option linter.unusedSimpArgs false
namespace Go.Proofs.Ytmacdhkfgoahcaa.Sy
open Go Go.RowKit Go.Proofs.YtmacdhkfgoahcaaW.PrintWords Go.Proofs.Ytmacdhkfgoahcaa.SyO
theorem wfi_iff {n : Int} : wfi n ↔ -9223372036854775808 ≤ n ∧ n ≤ 9223372036854775807 := by
  unfold wfi
  simp [Lit.wf, IntKind.min, IntKind.max, IntKind.bits, IntKind.signed]
theorem wrap_wf (n : Int) : wfi (IntKind.i64.wrap n) := by
  rw [wfi_iff]
  simp only [IntKind.wrap, IntKind.bits, IntKind.signed]
  simp
  split <;> omega
theorem rg_wf {n : Int} (h : Rg n) : wfi n := by rw [wfi_iff]; have := h.1; have := h.2; omega
theorem flag_w (b : Bool) : ∃ n, word_flag.f b = some n ∧ wfi n := by
  unfold word_flag.f; split
  · exact ⟨_, rfl, by decide⟩
  · exact ⟨_, rfl, by decide⟩
theorem cmp_t (a b : Int) : ∃ n, cmp_Compare_int.f a b = some n := by
  unfold cmp_Compare_int.f
  simp only [cmp_isNaN_int.f, jn, Option.bind_some]
  repeat' (first | exact ⟨_, rfl⟩ | split)
theorem ordered_w (k a b : Int) : ∃ n, word_ordered_int.f k a b = some n ∧ wfi n := by
  obtain ⟨c, hc⟩ := cmp_t a b
  unfold word_ordered_int.f
  rw [hc, Option.bind_some]
  obtain ⟨n1, e1, f1⟩ := flag_w (decide (c < 0))
  obtain ⟨n2, e2, f2⟩ := flag_w (decide (c ≤ 0))
  obtain ⟨n3, e3, f3⟩ := flag_w (decide (c = 0))
  obtain ⟨n4, e4, f4⟩ := flag_w (!decide (c = 0))
  rw [e1, e2, e3, e4]
  simp only [Option.bind_some]
  repeat' (first | exact ⟨_, rfl, by assumption⟩ | split)
theorem plain_w (k a b : Int) : ∃ n, word_plain.f k a b = some n ∧ wfi n := by
  obtain ⟨c, hc, hw⟩ := ordered_w k a b
  unfold word_plain.f
  rw [hc]
  simp only [Option.bind_some]
  repeat' (first | exact ⟨_, rfl, hw⟩ | exact ⟨_, rfl, wrap_wf _⟩ | split)
theorem fdiv_w {a p : Int} (ha : wfi a) (hp : 1 ≤ p) : wfi (a.fdiv p) := by
  rw [wfi_iff] at *
  rw [Int.fdiv_eq_ediv_of_nonneg _ (by omega)]
  have h1 : a / p * p ≤ a := Int.ediv_mul_le a (by omega)
  have h2 : a < (a / p + 1) * p := Int.lt_ediv_add_one_mul_self a (by omega)
  generalize a / p = q at *
  constructor
  · rcases Int.lt_or_le q 0 with h | h
    · have h3 : (q + 1) * p ≤ (q + 1) * 1 := Int.mul_le_mul_of_nonpos_left (by omega) hp
      omega
    · omega
  · rcases Int.lt_or_le q 0 with h | h
    · omega
    · have h3 : q * 1 ≤ q * p := Int.mul_le_mul_of_nonneg_left hp h
      omega
theorem tmod_w {a b : Int} (ha : wfi a) : wfi (a.tmod b) := by
  rw [wfi_iff] at *
  have h1 : (a.tmod b).natAbs ≤ a.natAbs := by rw [Int.natAbs_tmod]; exact Nat.mod_le _ _
  rcases Int.lt_or_le a 0 with h | h
  · have h2 : 0 ≤ (-a).tmod b := Int.tmod_nonneg b (by omega)
    rw [Int.neg_tmod] at h2
    omega
  · omega
theorem moved_w (k a b : Int) (ha : wfi a) : ∃ n, word_moved.f k a b = some n ∧ wfi n := by
  have h : ¬ IntKind.u64.wrap (if 64 < b then 64 else b) < 0 := by
    have : IntKind.u64.wrap (if 64 < b then 64 else b) = (if 64 < b then 64 else b) % 18446744073709551616 := rfl
    rw [this]; omega
  unfold word_moved.f
  rw [if_pos h, if_pos h]
  split
  · exact ⟨_, rfl, wrap_wf _⟩
  · exact ⟨_, rfl, fdiv_w ha (Int.pow_pos (by omega))⟩
theorem divided_w (k a b : Int) (h : ¬ b = 0) (ha : wfi a) : ∃ n, word_divided.f k a b = some n ∧ wfi n := by
  unfold word_divided.f
  rw [if_pos h, if_pos h]
  split
  · exact ⟨_, rfl, wrap_wf _⟩
  · exact ⟨_, rfl, tmod_w ha⟩
theorem do_w (k a b : Int) (ha : wfi a) : ∃ n e, word_Do.f k a b = some (n, e) ∧ wfi n := by
  obtain ⟨c1, h1, w1⟩ := plain_w k a b
  obtain ⟨c2, h2, w2⟩ := moved_w k a b ha
  have hk : ∃ w, word_Known.f k = some w := by unfold word_Known.f; split <;> exact ⟨_, rfl⟩
  obtain ⟨w, hw⟩ := hk
  unfold word_Do.f
  simp only [jn, h1, h2, hw, Option.bind_some]
  have w0 : wfi 0 := by decide
  by_cases hb : b = 0
  · simp only [hb, if_true]; repeat' (first | exact ⟨_, _, rfl, by assumption⟩ | split)
  · obtain ⟨c3, h3, w3⟩ := divided_w k a b hb ha
    simp only [h3, Option.bind_some]
    repeat' (first | exact ⟨_, _, rfl, by assumption⟩ | split)
/-! #### What is known within a block -/
structure Kn (k : Nat) (num cop : MpS) : Prop where
  n1 : num.1 ≤ k
  c1 : cop.1 ≤ k
  nv : ∀ r v, num.2 r = some v → wfi v
  cv : ∀ r v, cop.2 r = some v → Rg v
theorem get_w {num : MpS} (h : ∀ r v, num.2 r = some v → wfi v) (r : Int) : wfi (mget num r) := by
  unfold mget
  cases hr : num.2 r with
  | none => simp; decide
  | some v => simpa using h r v hr
theorem held_f {k : Nat} {num cop : MpS} (h : Kn k num cop) {r : Int} (hr : Rg r) : ∃ q, fold_facts_held.f num cop r = some q ∧ Rg q := by
  unfold fold_facts_held.f
  rw [if_pos (rg_wf hr)]
  cases hm : cop.2 r with
  | none => exact ⟨r, by simp [mhas, hm], hr⟩
  | some v => exact ⟨v, by simp [mhas, mget, hm], h.cv r v hm⟩
theorem clone_i {l : List Int} (h : l.length ≤ 1000) : slices_Clone_int_int.f l = some l := by
  unfold slices_Clone_int_int.f; rw [if_pos (by simp; omega)]; simp
theorem args_h {k : Nat} {num cop : MpS} (h : Kn k num cop) {l : List Int} (hl : l.length ≤ 1000) (hr : ∀ a ∈ l, Rg a) : ∃ q, fold_facts_replaced.l0 num cop l (l.length + 1) l 0 = some q ∧ q.length = l.length ∧ ∀ a ∈ q, Rg a := by
  have := loopd (xs := l) (F := fun n i w => fold_facts_replaced.l0 num cop l n w i) (P := fun ys f => ∀ w : List Int, w.length = l.length → (∀ a ∈ w, Rg a) → ∃ q, f w = some q ∧ q.length = l.length ∧ ∀ a ∈ q, Rg a) (by omega) (fun n w h1 h2 => ⟨w, by simp [fold_facts_replaced.l0], h1, h2⟩) (fun n i y ys hd hlt hat hm hw ih w h1 h2 => by
    have hi : i < w.length := by omega
    have hg : at? w (i : Int) = some w[i] := by unfold at?; rw [if_pos (by omega), Int.toNat_natCast, List.getElem?_eq_getElem hi]
    obtain ⟨v, v1, v2⟩ := held_f h (h2 _ (List.getElem_mem hi))
    show ∃ q, fold_facts_replaced.l0 num cop l (n + 1) w i = some q ∧ _
    rw [fold_facts_replaced.l0, if_pos hlt, hg, Option.bind_some, v1, Option.bind_some, Option.bind_some, Int.toNat_natCast, hw]
    exact ih _ (by simpa using h1) (fun a ha => by rcases List.mem_or_eq_of_mem_set ha with h | rfl; exact h2 a h; exact v2)) (l.length + 1) (by omega)
  exact this l rfl hr
theorem eta1 {o : S30} {n : Int} (e : o.f0 = n) : (⟨n, o.f1, o.f2, o.f3, o.f4, o.f5⟩ : S30) = o := by cases o; simp only at e; subst e; rfl
theorem ra_iff {o : S30} : Ra o = true ↔ ∀ a ∈ o.f5, Rg a := by unfold Ra; simp [List.all_eq_true]
theorem repl_f {k : Nat} {num cop : MpS} (h : Kn k num cop) {o : S30} (hl : o.f5.length ≤ 20) (hok : okOp o 256 = true) : ∃ q, fold_facts_replaced.f num cop o = some q ∧ okOp q 256 = true ∧ q.f5.length = o.f5.length ∧ q.f0 = o.f0 ∧ q.f1 = o.f1 ∧ q.f4 = o.f4 ∧ (o.f0 = 1 → q = o) := by
  have hk : 1 ≤ o.f0 ∧ o.f0 ≤ 9 := by
    apply Classical.byContradiction; intro hn
    unfold okOp at hok; simp [hn] at hok
  have hok' := hok
  unfold okOp at hok'
  unfold fold_facts_replaced.f
  simp only [jn]
  rcases nine hk.1 hk.2 with e | e | e | e | e | e | e | e | e <;> simp only [e] at hok' ⊢ <;> simp at hok'
  · exact ⟨⟨1, o.f1, o.f2, o.f3, o.f4, o.f5⟩, by simp, by rw [eta1 e]; exact hok, rfl, rfl, rfl, rfl, fun _ => eta1 e⟩
  · obtain ⟨a, a1, a2⟩ := held_f h (r := o.f2) (by omega)
    obtain ⟨b, b1, b2⟩ := held_f h (r := o.f3) (by omega)
    exact ⟨⟨2, o.f1, a, b, o.f4, o.f5⟩, by simp [a1, b1], by simp [okOp, hok'.2]; omega, rfl, rfl, rfl, rfl, fun h1 => absurd h1 (by decide)⟩
  · obtain ⟨a, a1, a2⟩ := held_f h (r := o.f2) (by omega)
    exact ⟨⟨3, o.f1, a, o.f3, o.f4, o.f5⟩, by simp [a1], by simp [okOp, hok'.2]; omega, rfl, rfl, rfl, rfl, fun h1 => absurd h1 (by decide)⟩
  · obtain ⟨a, a1, a2⟩ := held_f h (r := o.f2) (by omega)
    exact ⟨⟨4, o.f1, a, o.f3, o.f4, o.f5⟩, by simp [a1], by simp [okOp, hok'.2]; omega, rfl, rfl, rfl, rfl, fun h1 => absurd h1 (by decide)⟩
  · obtain ⟨a, a1, a2⟩ := held_f h (r := o.f2) (by omega)
    obtain ⟨b, b1, b2⟩ := held_f h (r := o.f3) (by omega)
    exact ⟨⟨5, o.f1, a, b, o.f4, o.f5⟩, by simp [a1, b1], by simp [okOp, hok'.2]; omega, rfl, rfl, rfl, rfl, fun h1 => absurd h1 (by decide)⟩
  · exact ⟨⟨6, o.f1, o.f2, o.f3, o.f4, o.f5⟩, by simp, by rw [eta1 e]; exact hok, rfl, rfl, rfl, rfl, fun _ => eta1 e⟩
  · obtain ⟨q, q1, q2, q3⟩ := args_h h (l := o.f5) (by omega) (ra_iff.1 hok'.2.2)
    have hra : Ra (⟨7, o.f1, o.f2, o.f3, o.f4, q⟩ : S30) = true := ra_iff.2 q3
    exact ⟨⟨7, o.f1, o.f2, o.f3, o.f4, q⟩, by simp [clone_i (l := o.f5) (by omega), q1], by simp [okOp, hra]; omega, q2, rfl, rfl, rfl, fun h1 => absurd h1 (by decide)⟩
  · exact ⟨⟨8, o.f1, o.f2, o.f3, o.f4, o.f5⟩, by simp, by rw [eta1 e]; exact hok, rfl, rfl, rfl, rfl, fun _ => eta1 e⟩
  · obtain ⟨a, a1, a2⟩ := held_f h (r := o.f2) (by omega)
    exact ⟨⟨9, o.f1, a, o.f3, o.f4, o.f5⟩, by simp [a1], by simp [okOp, hok'.2]; omega, rfl, rfl, rfl, rfl, fun h1 => absurd h1 (by decide)⟩
end Go.Proofs.Ytmacdhkfgoahcaa.Sy
set_option linter.unusedVariables false
set_option linter.unusedSimpArgs false
namespace Go.Proofs.Ytmacdhkfgoahcaa.Sy
open Go Go.RowKit Go.Proofs.YtmacdhkfgoahcaaW.PrintWords Go.Proofs.Ytmacdhkfgoahcaa.SyO
theorem neu_t (a b : Int) : ∃ q, fold_Neutral.f a b = some q := by
  unfold fold_Neutral.f
  simp only [jn]
  repeat' (first | exact ⟨_, rfl⟩ | split)
theorem neutral_t {num : MpS} (op : Int) {r : Int} (hr : Rg r) : ∃ q, fold_numbers_neutral.f num op r = some q := by
  unfold fold_numbers_neutral.f
  rw [if_pos (rg_wf hr)]
  obtain ⟨q, hq⟩ := neu_t op (mget num r)
  split
  · rw [hq]; exact ⟨_, rfl⟩
  · exact ⟨_, rfl⟩
theorem zero_t {num : MpS} {r : Int} (hr : Rg r) : ∃ q, fold_numbers_zero.f num r = some q := by
  unfold fold_numbers_zero.f
  rw [if_pos (rg_wf hr)]
  split <;> exact ⟨_, rfl⟩
theorem both_t {num : MpS} (h : ∀ r v, num.2 r = some v → wfi v) {o : S30} (ha : Rg o.f2) (hb : Rg o.f3) : ∃ q, fold_numbers_both.f num o = some q ∧ wfi q.1 := by
  obtain ⟨n, e, h1, h2⟩ := do_w o.f4 (mget num o.f2) (mget num o.f3) (get_w h _)
  unfold fold_numbers_both.f
  rw [if_pos (rg_wf ha), if_pos (rg_wf hb)]
  simp only [jn, h1, Option.bind_some]
  repeat' (first | exact ⟨_, rfl, h2⟩ | exact ⟨_, rfl, by decide⟩ | split)
theorem turned_t (k : Int) : ∃ q, word_Turned.f k = some q := by
  unfold word_Turned.f
  simp only [jn]
  repeat' (first | exact ⟨_, rfl⟩ | split)
theorem fold_t (k : Int) : ∃ q, word_Fold.f k 0 = some q ∧ wfi q.1 := by
  unfold word_Fold.f
  simp only [jn]
  repeat' (first | exact ⟨_, rfl, by decide⟩ | split)
/-- What an operation becomes. -/
def Bc (o q : S30) : Prop := (∃ n, wfi n ∧ q = ⟨1, o.f1, 0, 0, n, []⟩) ∨ (∃ a, Rg a ∧ q = ⟨3, o.f1, a, 0, 0, []⟩) ∨ q = o
def Bx (o : S30) (x : Option S30) : Prop := ∃ q, x = some q ∧ Bc o q
theorem bx_ite {o : S30} {c : Prop} [Decidable c] {a b : Option S30} (ha : Bx o a) (hb : Bx o b) : Bx o (if c then a else b) := by split <;> assumption
theorem reckon_t {num : MpS} (h : ∀ r v, num.2 r = some v → wfi v) {o : S30} (ha : Rg o.f2) (hb : Rg o.f3) : ∃ q, fold_numbers_reckon.f num o = some q ∧ Bc o q := by
  obtain ⟨b, b1, b2⟩ := both_t h ha hb
  obtain ⟨t, t1⟩ := turned_t o.f4
  obtain ⟨f, f1, f2⟩ := fold_t o.f4
  obtain ⟨n1, e1⟩ := neutral_t (num := num) o.f4 ha
  obtain ⟨n2, e2⟩ := neutral_t (num := num) o.f4 hb
  obtain ⟨z1, e3⟩ := zero_t (num := num) ha
  obtain ⟨z2, e4⟩ := zero_t (num := num) hb
  unfold fold_numbers_reckon.f fold_constant.f fold_move.f
  simp only [jn, b1, t1, f1, e1, e2, e3, e4, Option.bind_some]
  show Bx o _
  repeat' (first | exact ⟨_, rfl, .inl ⟨_, b2, rfl⟩⟩ | exact ⟨_, rfl, .inl ⟨_, f2, rfl⟩⟩ | exact ⟨_, rfl, .inl ⟨0, by decide, rfl⟩⟩ | exact ⟨_, rfl, .inr (.inl ⟨_, ha, rfl⟩)⟩ | exact ⟨_, rfl, .inr (.inl ⟨_, hb, rfl⟩)⟩ | exact ⟨_, rfl, .inr (.inr rfl)⟩ | apply bx_ite)
theorem ok_kind {o : S30} (hok : okOp o 256 = true) : 1 ≤ o.f0 ∧ o.f0 ≤ 9 := by
  apply Classical.byContradiction; intro hn
  unfold okOp at hok; simp [hn] at hok
theorem ok_regs {o : S30} (hok : okOp o 256 = true) : ((o.f0 = 2 ∨ o.f0 = 3) → Rg o.f1 ∧ Rg o.f2) ∧ (o.f0 = 2 → Rg o.f3) ∧ wfi o.f2 := by
  have hk := ok_kind hok
  rw [wfi_iff]
  unfold okOp at hok
  rcases nine hk.1 hk.2 with e | e | e | e | e | e | e | e | e <;> simp only [e] at hok ⊢ <;> simp at hok <;> exact ⟨fun h => by omega, fun h => by omega, by omega⟩
theorem bc_ok {o q : S30} (h : Bc o q) (hok : okOp o 256 = true) (hr : Rg o.f1) : okOp q 256 = true := by
  rcases h with ⟨n, hn, rfl⟩ | ⟨a, ha, rfl⟩ | rfl
  · simp [okOp]; omega
  · simp [okOp]; omega
  · exact hok
theorem op_t {num : MpS} (h : ∀ r v, num.2 r = some v → wfi v) {o : S30} (hl : o.f5.length ≤ 20) (hok : okOp o 256 = true) : ∃ q, fold_numbers_op.f num o = some q ∧ okOp q 256 = true ∧ (q = o ∨ (o.f0 = 2 ∨ o.f0 = 3) ∧ Bc o q) := by
  obtain ⟨h1, h2, h3⟩ := ok_regs hok
  have hc := clone_i (l := o.f5) (by omega)
  unfold fold_numbers_op.f fold_constant.f
  rw [if_pos h3]
  simp only [jn]
  by_cases e3 : o.f0 = 3
  · have ho : okOp (⟨1, o.f1, 0, 0, mget num o.f2, []⟩ : S30) 256 = true := bc_ok (.inl ⟨_, get_w h _, rfl⟩) hok (h1 (.inr e3)).1
    simp only [e3, if_true]
    cases hm : mhas num o.f2 with
    | true => exact ⟨_, by simp, ho, .inr ⟨.inr trivial, .inl ⟨_, get_w h _, rfl⟩⟩⟩
    | false => exact ⟨o, by simp [hc]; exact eta1 e3, hok, .inl rfl⟩
  · by_cases e2 : o.f0 = 2
    · obtain ⟨q, q1, q2⟩ := reckon_t h (h1 (.inl e2)).2 (h2 e2)
      have hk : word_Known.f o.f4 = some (decide (1 ≤ o.f4 ∧ o.f4 ≤ 14)) := known_b _
      have hq := bc_ok q2 hok (h1 (.inl e2)).1
      simp only [e2, q1, hk, Option.bind_some]
      by_cases hkk : 1 ≤ o.f4 ∧ o.f4 ≤ 14
      · have hql : q.f5.length ≤ 1000 := by rcases q2 with ⟨n, _, rfl⟩ | ⟨a, _, rfl⟩ | rfl <;> first | (simp; done) | omega
        exact ⟨q, by simp [hkk, clone_i hql], hq, .inr ⟨.inl trivial, q2⟩⟩
      · exact ⟨o, by simp [hkk, hc]; exact eta1 e2, hok, .inl rfl⟩
    · exact ⟨o, by simp [e2, e3, hc], hok, .inl rfl⟩
theorem sets_ok {o : S30} (hok : okOp o 256 = true) : code_Sets.f o = some o.f1 := by
  have hk := ok_kind hok
  unfold okOp at hok
  unfold code_Sets.f
  rw [shape_f, Option.bind_some]
  rcases nine hk.1 hk.2 with e | e | e | e | e | e | e | e | e <;> simp only [e] at hok ⊢ <;> simp at hok <;> simp <;> omega
theorem dst_ok {o : S30} (hok : okOp o 256 = true) : o.f1 = 0 ∨ Rg o.f1 := by
  unfold okOp at hok
  by_cases h : o.f0 = 5 ∨ o.f0 = 9
  · rw [if_pos h] at hok; simp at hok; omega
  · rw [if_neg h] at hok; simp at hok; omega
theorem learn_t {k : Nat} {num cop : MpS} (h : Kn k num cop) (hk : k < 1000) {o : S30} (hok : okOp o 256 = true) (hw : wfi o.f4) : ∃ q, fold_facts_learn.f num cop o = some q ∧ Kn (k + 1) q.1 q.2 := by
  obtain ⟨g1, g2, g3⟩ := ok_regs hok
  unfold fold_facts_learn.f
  rw [sets_ok hok, Option.bind_some]
  by_cases h0 : o.f1 = 0
  · rw [if_pos h0]; exact ⟨_, rfl, ⟨by have := h.n1; show num.1 ≤ k + 1; omega, by have := h.c1; show cop.1 ≤ k + 1; omega, h.nv, h.cv⟩⟩
  · have hr : Rg o.f1 := by rcases dst_ok hok with e | e; exact absurd e h0; exact e
    have hwf := rg_wf hr
    have n1 := h.n1; have c1 := h.c1
    rw [if_neg h0, if_pos hwf, if_pos hwf]
    have kd : Kn (k + 1) (mdel num o.f1) (mdelf (mdel cop o.f1) (fun _ v => decide (v = o.f1))) := ⟨by show num.1 ≤ k + 1; omega, by show cop.1 ≤ k + 1; omega, fun r v hv => by
        simp only [mdel] at hv
        split at hv
        · cases hv
        · exact h.nv r v hv, fun r v hv => by
        simp only [mdel, mdelf] at hv
        by_cases hro : r = o.f1
        · simp [hro] at hv
        · simp only [hro, if_false] at hv
          cases hc : cop.2 r with
          | none => rw [hc] at hv; cases hv
          | some w =>
            rw [hc] at hv
            simp only at hv
            split at hv
            · cases hv
            · cases hv; exact h.cv r _ hc⟩
    by_cases e1 : o.f0 = 1
    · rw [if_pos e1, if_pos ⟨by show num.1 < _; omega, hwf, hw⟩]
      refine ⟨_, rfl, ⟨by show num.1 + 1 ≤ k + 1; omega, kd.c1, fun r v hv => ?_, kd.cv⟩⟩
      simp only [mput] at hv
      split at hv
      · cases hv; exact hw
      · exact kd.nv r v hv
    · rw [if_neg e1]
      simp only [jn]
      by_cases e3 : o.f0 = 3
      · rw [if_pos e3]
        by_cases e4 : o.f2 = o.f1
        · rw [if_neg (by simp [e4])]; exact ⟨_, rfl, kd⟩
        · rw [if_pos (by simp [e4]), if_pos ⟨by show cop.1 < _; omega, hwf, rg_wf (g1 (.inr e3)).2⟩]
          refine ⟨_, rfl, ⟨kd.n1, by show cop.1 + 1 ≤ k + 1; omega, kd.nv, fun r v hv => ?_⟩⟩
          simp only [mput] at hv
          split at hv
          · cases hv; exact (g1 (.inr e3)).2
          · exact kd.cv r v hv
      · rw [if_neg e3, if_neg (by simp)]; exact ⟨_, rfl, kd⟩
theorem term_t {k : Nat} {num cop : MpS} (h : Kn k num cop) {t : S25} {n : Nat} (hn : (n : Int) ≤ 4096) (ht : okTerm t n = true) : ∃ q, fold_facts_term.f num cop t = some q ∧ okTerm q n = true := by
  unfold okTerm at ht
  unfold fold_facts_term.f code_TermUses.f
  simp only [jn]
  by_cases e2 : t.f0 = 2
  · simp [e2] at ht
    obtain ⟨a, a1, a2⟩ := held_f h (r := t.f1) (by omega)
    have hw := rg_wf a2
    simp only [e2, if_true, Option.bind_some, List.length_singleton, a1]
    cases hm : mhas num a with
    | false => exact ⟨⟨2, a, t.f2, t.f3⟩, by simp [hw], by simp [okTerm]; omega⟩
    | true =>
      by_cases hz : mget num a = 0
      · exact ⟨⟨1, 0, t.f3, 0⟩, by simp [hw, hz], by simp [okTerm]; omega⟩
      · exact ⟨⟨1, 0, t.f2, 0⟩, by simp [hw, hz], by simp [okTerm]; omega⟩
  · by_cases e3 : t.f0 = 3
    · simp [e3] at ht
      obtain ⟨a, a1, a2⟩ := held_f h (r := t.f1) (by omega)
      exact ⟨⟨3, a, t.f2, t.f3⟩, by simp [e3, a1, rg_wf a2], by simp [okTerm]; omega⟩
    · have hw : wfi t.f1 := by
        rw [wfi_iff]
        by_cases k1 : t.f0 = 1
        · simp [k1] at ht; omega
        · by_cases k4 : t.f0 = 4
          · simp [k4] at ht; omega
          · simp [k1, e2, e3, k4] at ht
      refine ⟨t, ?_, by unfold okTerm; exact ht⟩
      simp [e2, e3, hw]
end Go.Proofs.Ytmacdhkfgoahcaa.Sy
set_option linter.unusedVariables false
set_option linter.unusedSimpArgs false
set_option maxRecDepth 100000
set_option maxHeartbeats 4000000
namespace Go.Proofs.Ytmacdhkfgoahcaa.Sy
open Go Go.RowKit Go.Proofs.YtmacdhkfgoahcaaW.PrintWords 
def swageref02_Ints.l0 (a0 : (List Int)) (a1 : (List Int)) : Nat → Int → Option (Sum Bool (Unit))
 | 0, _ => none
 | n248 + 1, x168 => (if x168 < (a0.length : Int) then (at? a0 x168).bind fun y385 => (at? a1 x168).bind fun y394 => (if (!decide (y385 = y394)) = true then some (.inl false) else swageref02_Ints.l0 a0 a1 n248 (IntKind.i64.wrap (x168 + 1))) else some (.inr ()))
def swageref02_Ints.f (a0 : (List Int)) (a1 : (List Int)) : Option Bool := (if (!decide ((a0.length : Int) = (a1.length : Int))) = true then some false else (swageref02_Ints.l0 a0 a1 (a0.length + 1) 0).bind fun | .inl q_ => some q_ | .inr _ => (some true))
def swageref02_Ints.post (G : Gd)  (r : Bool) (v : Value) (G' : Gd) (Lr : List Ch) : Prop := G = G' ∧ v = .bool r ∧ Lr = []
theorem swageref02_Ints.calls {G : Gd} {r : Bool} {a0 : (List Int)} {a1 : (List Int)} {A1 : Option Addr} {c2 : Nat} {A5 : Option Addr} {c6 : Nat} (hr3 : Rd G (Kd.int .i64) A1 a0) (hl4 : a0.length ≤ c2) (hr7 : Rd G (Kd.int .i64) A5 a1) (hl8 : a1.length ≤ c6) (h : swageref02_Ints.f a0 a1 = some r) : Fn Try.prog 19 G [] [.slice A1 a0.length c2, .slice A5 a1.length c6] (swageref02_Ints.post G  r) := by
 refine Fn.intro (e := [(0, .slice A1 a0.length c2), (1, .slice A5 a1.length c6)]) 26 Try.func19 rfl Try.ntmps19 rfl rfl (Nat.le_of_ble_eq_true rfl) (fun L => ?_)
 unfold swageref02_Ints.f at h
 refine TC.seq ?_
 refine TC.region ?_
 refine TL.cons (TO.val rfl rfl rfl (Val.assign rfl) ?_)
 refine TL.nil ?_
 refine TQ.then_ ?_
 refine TC.seq ?_
 refine TC.seq ?_
 refine TC.region ?_
 refine TL.cons (TO.val rfl rfl rfl (Val.move rfl) ?_)
 refine TL.cons (TO.val rfl rfl rfl (Val.len Try.underlying22 rfl) ?_)
 refine TL.cons (TO.val rfl rfl rfl (Val.move rfl) ?_)
 refine TL.cons (TO.val rfl rfl rfl (Val.len Try.underlying22 rfl) ?_)
 refine TL.cons (TO.val rfl rfl rfl (Val.cmp rfl rfl run_neq) ?_)
 refine TL.nil ?_
 refine TQ.then_ ?_
 refine TC.cond_b rfl h (fun hc10 h => ?_) (fun hc10 h => ?_)
 ·
  refine TC.seq ?_
  refine TC.region ?_
  refine TL.cons (TO.val rfl rfl rfl (Val.assign rfl) ?_)
  refine TL.nil ?_
  refine TQ.then_ ?_
  refine TC.ret ?_
  refine TQ.thenR ?_
  obtain rfl := Option.some.inj h
  exact TQ.fin (.inl rfl) rfl Try.results19 (.tmp rfl .nil) rfl (FRel.mk (Ls := []) [] 0 (Gd.le.refl _) rfl rfl rfl ⟨rfl, rfl, rfl⟩)
 ·
  refine TC.skip ?_
  refine TQ.then_ ?_
  refine TC.seq ?_
  refine TC.seq ?_
  refine TC.region ?_
  refine TL.cons (TO.val rfl rfl rfl (Val.assign rfl) ?_)
  refine TL.nil ?_
  refine TQ.then_ ?_
  obtain ⟨o247, ho247, ko247⟩ := bind_no h
  clear h
  refine TC.tail (fun a W => (.inr ()) = o247 ∧ Fr 26 a [] ∧ Own G (L) W) ?_ ?_
  ·
   rintro a W ⟨rfl, hF, hO⟩
   have h := ko247
   clear ko247 ho247
   refine TQ.use ?_ hF hO
   clear hF hO
   refine TQ.then_ ?_
   refine TC.seq ?_
   refine TC.region ?_
   refine TL.cons (TO.val rfl rfl rfl (Val.assign rfl) ?_)
   refine TL.nil ?_
   refine TQ.then_ ?_
   refine TC.ret ?_
   obtain rfl := Option.some.inj h
   exact TQ.fin (.inl rfl) rfl Try.results19 (.tmp rfl .nil) rfl (FRel.mk (Ls := []) [] 0 (Gd.le.refl _) rfl rfl rfl ⟨rfl, rfl, rfl⟩)
  ·
   refine TC.block ?_
   intro a W hF hO
   have hS : ∃ (x168 : Int), swageref02_Ints.l0 a0 a1 (a0.length + 1) x168 = some o247 ∧ Fr 26 a [(0, .slice A1 a0.length c2), (1, .slice A5 a1.length c6), (5, .int .i64 x168)] ∧ Own G (L) W := by
    exact ⟨0, ho247, hF.sub ⟨rfl, rfl, rfl, trivial⟩, hO.selT (Ls := []) [] 0 rfl rfl rfl⟩
   clear hF hO ho247
   refine TC.loop (fun n248 a W => ∃ (x168 : Int), swageref02_Ints.l0 a0 a1 n248 x168 = some o247 ∧ Fr 26 a [(0, .slice A1 a0.length c2), (1, .slice A5 a1.length c6), (5, .int .i64 x168)] ∧ Own G (L) W) ?_ ?_ hS
   ·
    rintro a W ⟨x168, h, hF, hO⟩
    exact none_no h
   ·
    clear hS
    rintro n248 a W ⟨x168, h, hF, hO⟩
    rw [swageref02_Ints.l0] at h
    refine TC.use ?_ hF hO
    clear hF hO
    refine TC.seq ?_
    refine TC.seq ?_
    refine TC.region ?_
    refine TL.cons (TO.val rfl rfl rfl (Val.move rfl) ?_)
    refine TL.cons (TO.val rfl rfl rfl (Val.move rfl) ?_)
    refine TL.cons (TO.val rfl rfl rfl (Val.len Try.underlying22 rfl) ?_)
    refine TL.cons (TO.val rfl rfl rfl (Val.cmp rfl rfl run_lss) ?_)
    refine TL.nil ?_
    refine TQ.then_ ?_
    refine TC.cond_p rfl h (fun hc328 h => ?_) (fun hc328 h => ?_)
    ·
     refine TC.skip ?_
     refine TQ.then_ ?_
     refine TC.seq ?_
     refine TC.block ?_
     refine TC.seq ?_
     refine TC.regionAny [] [0, 1, 2, 3, 4, 5, 6, 7, 8] mixed (by kernel_rfl) ?_
     refine TA.take 0 rfl (by kernel_rfl) rfl (PQ.then_ (PQ.inB (PQ.then_ (PQ.then_ (PQ.inB (PQ.then_ (PQ.then_ PQ.body))))))) rfl (Val.move rfl) (fun W hO => hO) ?_
     refine TA.take 1 rfl (by kernel_rfl) rfl (PQ.then_ (PQ.inB (PQ.then_ (PQ.then_ (PQ.inB (PQ.then_ (PQ.then_ PQ.body))))))) rfl (Val.move rfl) (fun W hO => hO) ?_
     obtain ⟨y385, hx386, h⟩ := bind_no h
     obtain ⟨ad387, cs393, hA388, hi389, hj390, hcl391, hK392⟩ := Rd.at hr3 hx386
     obtain rfl := RdK.int hK392
     refine TA.take 2 rfl (by kernel_rfl) rfl (PQ.then_ (PQ.inB (PQ.then_ (PQ.then_ (PQ.inB (PQ.then_ (PQ.then_ PQ.body))))))) rfl (Val.indexAddr Try.underlying22 fsz3 rfl hA388 rfl hi389 hj390) (fun W hO => hO) ?_
     refine TA.take 3 rfl (by kernel_rfl) rfl (PQ.then_ (PQ.inB (PQ.then_ (PQ.then_ (PQ.inB (PQ.then_ (PQ.then_ PQ.body))))))) rfl (Val.loadS agg3 rfl (hcl391 0 _ rfl)) (fun W hO => hO) ?_
     refine TA.take 4 rfl (by kernel_rfl) rfl (PQ.then_ (PQ.inB (PQ.then_ (PQ.then_ (PQ.inB (PQ.then_ (PQ.then_ PQ.body))))))) rfl (Val.move rfl) (fun W hO => hO) ?_
     refine TA.take 5 rfl (by kernel_rfl) rfl (PQ.then_ (PQ.inB (PQ.then_ (PQ.then_ (PQ.inB (PQ.then_ (PQ.then_ PQ.body))))))) rfl (Val.move rfl) (fun W hO => hO) ?_
     obtain ⟨y394, hx395, h⟩ := bind_no h
     obtain ⟨ad396, cs402, hA397, hi398, hj399, hcl400, hK401⟩ := Rd.at hr7 hx395
     obtain rfl := RdK.int hK401
     refine TA.take 6 rfl (by kernel_rfl) rfl (PQ.then_ (PQ.inB (PQ.then_ (PQ.then_ (PQ.inB (PQ.then_ (PQ.then_ PQ.body))))))) rfl (Val.indexAddr Try.underlying22 fsz3 rfl hA397 rfl hi398 hj399) (fun W hO => hO) ?_
     refine TA.take 7 rfl (by kernel_rfl) rfl (PQ.then_ (PQ.inB (PQ.then_ (PQ.then_ (PQ.inB (PQ.then_ (PQ.then_ PQ.body))))))) rfl (Val.loadS agg3 rfl (hcl400 0 _ rfl)) (fun W hO => hO) ?_
     refine TA.take 8 rfl (by kernel_rfl) rfl (PQ.then_ (PQ.inB (PQ.then_ (PQ.then_ (PQ.inB (PQ.then_ (PQ.then_ PQ.body))))))) rfl (Val.cmp rfl rfl run_neq) (fun W hO => hO) ?_
     refine TA.done (by kernel_rfl) ?_
     refine TQ.then_ ?_
     refine TC.cond_b rfl h (fun hc404 h => ?_) (fun hc404 h => ?_)
     ·
      refine TC.seq ?_
      refine TC.region ?_
      refine TL.cons (TO.val rfl rfl rfl (Val.assign rfl) ?_)
      refine TL.nil ?_
      refine TQ.then_ ?_
      refine TC.ret ?_
      refine TQ.inBR ?_
      refine TQ.thenR ?_
      refine TQ.thenR ?_
      refine TQ.inBR ?_
      refine TQ.thenR ?_
      refine TQ.thenR ?_
      obtain rfl := Option.some.inj h
      have h := ko247
      obtain rfl := Option.some.inj h
      exact TQ.fin (.inl rfl) rfl Try.results19 (.tmp rfl .nil) rfl (FRel.mk (Ls := []) [] 0 (Gd.le.refl _) rfl rfl rfl ⟨rfl, rfl, rfl⟩)
     ·
      refine TC.skip ?_
      refine TQ.inB ?_
      refine TQ.then_ ?_
      refine TC.region ?_
      refine TL.cons (TO.val rfl rfl rfl (Val.move rfl) ?_)
      refine TL.cons (TO.val rfl rfl rfl (Val.cmp rfl rfl run_add) ?_)
      refine TL.cons (TO.val rfl rfl rfl (Val.assign rfl) ?_)
      refine TL.nil ?_
      exact fun a W hF hO => ⟨IntKind.i64.wrap (x168 + 1), h, hF.sub ⟨rfl, rfl, rfl, trivial⟩, hO.selT (Ls := []) [] 0 rfl rfl rfl⟩
    ·
     refine TC.exit ?_
     refine TQ.thenX ?_
     refine TQ.thenX ?_
     refine TQ.inBX ?_
     exact fun a W hF hO => ⟨Option.some.inj h, hF.sub trivial, hO.selT (Ls := []) [] 0 rfl rfl rfl⟩
end Go.Proofs.Ytmacdhkfgoahcaa.Sy
