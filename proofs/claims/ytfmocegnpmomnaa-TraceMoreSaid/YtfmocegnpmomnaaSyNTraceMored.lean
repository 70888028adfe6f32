/- Texts of this work, joined: SyF6, TrR, TrC, SyF50, SyF51, SyF52, SyF25, SyF10, SyF5, TrD, TrE, TrG, TrF. -/
import Derived.Test.YtfmocegnpmomnaaSyNTraceMorec
set_option linter.unusedVariables false
set_option linter.unusedSimpArgs false
set_option maxRecDepth 100000
set_option maxHeartbeats 4000000
namespace Go.Proofs.Ytfmocegnpmomnaa.Sy
open Go Go.RowKit Go.Proofs.YtfmocegnpmomnaaW.PrintWords 
def swagelaw15_TraceReckons.f (a0 : Int) (a1 : Int) (a2 : Int) : Option Bool := (swagelaw15_small.f).bind fun (y1 : Bool) => (word_Known.f a0).bind fun (y5 : Bool) => (if (!y5) = true then some y1 else (trace_Run.f ([(⟨0, ([(⟨([(⟨8, 1, 0, 0, 0, ([] : List Int)⟩ : S37), (⟨8, 2, 0, 0, 0, ([] : List Int)⟩ : S37), (⟨2, 3, 1, 2, a0, ([] : List Int)⟩ : S37), (⟨9, 0, 3, 0, 0, ([] : List Int)⟩ : S37)] : List S37), (⟨3, 3, 0, 0⟩ : S40)⟩ : S42)] : List S42)⟩ : S45)] : List S45) 2 ([a1, a2] : List Int) 9).bind fun (y34 : (S28 × Int)) => (word_Do.f a0 a1 a2).bind fun (y40 : (Int × Int)) => jn (γ := Bool) (fun (x47 : Bool) => (if x47 = true then some false else (if (!decide (y40.2 = 0)) = true then (if y1 = true then some (decide ((y34.1.f0.length : Int) = 0)) else some false) else (if y1 = true then (swageref02_Ints.f y34.1.f0 ([y40.1] : List Int)).bind fun (y100 : Bool) => some y100 else some false)))) (fun (j48 : (Bool → Option Bool)) => (if (!decide (y34.2 = 0)) = true then j48 true else j48 (!decide (y34.1.f1 = y40.2)))))
def swagelaw15_TraceReckons.post (G : Gd)  (r : Bool) (v : Value) (G' : Gd) (Lr : List Ch) : Prop := v = .bool r ∧ Lr = []
theorem swagelaw15_TraceReckons.calls {G : Gd} {r : Bool} {a0 : Int} {a1 : Int} {a2 : Int} (h : swagelaw15_TraceReckons.f a0 a1 a2 = some r) : Fn Try.prog 6 G [] [.int .i64 a0, .int .i64 a1, .int .i64 a2] (swagelaw15_TraceReckons.post G  r) := by
 refine Fn.intro (e := [(0, .int .i64 a0), (1, .int .i64 a1), (2, .int .i64 a2)]) 69 Try.func6 rfl Try.ntmps6 rfl rfl (Nat.le_of_ble_eq_true rfl) (fun L => ?_)
 unfold swagelaw15_TraceReckons.f at h
 refine TC.seq ?_
 refine TC.region ?_
 refine TL.cons (TO.val rfl rfl rfl (Val.assign rfl) ?_)
 refine TL.nil ?_
 refine TQ.then_ ?_
 refine TC.seq ?_
 refine TC.region ?_
 obtain ⟨y1, hy2, h⟩ := bind_no h
 refine TL.cons (TL.callV (Lin := []) (args := []) rfl rfl rfl hbd9 rfl rfl (swagelaw15_small.calls hy2) rfl ?_)
 rintro _ G3 _ e4 ⟨rfl, rfl⟩
 refine TL.cons (TO.val rfl rfl rfl (Val.assign rfl) ?_)
 refine TL.nil ?_
 refine TQ.then_ ?_
 refine TC.seq ?_
 refine TC.seq ?_
 refine TC.region ?_
 refine TL.cons (TO.val rfl rfl rfl (Val.move rfl) ?_)
 obtain ⟨y5, hy6, h⟩ := bind_no h
 refine TL.cons (TL.callV (Lin := []) (args := [.int .i64 a0]) rfl rfl rfl hbd18 rfl rfl (word_Known.calls (a0 := a0) hy6) rfl ?_)
 rintro _ _ _ _ ⟨rfl, rfl, rfl⟩
 refine TL.cons (TO.val rfl rfl rfl (Val.not_ rfl) ?_)
 refine TL.nil ?_
 refine TQ.then_ ?_
 refine TC.cond_b rfl h (fun hc8 h => ?_) (fun hc8 h => ?_)
 ·
  refine TC.seq ?_
  refine TC.region ?_
  refine TL.cons (TO.val rfl rfl rfl (Val.move rfl) ?_)
  refine TL.cons (TO.val rfl rfl rfl (Val.assign rfl) ?_)
  refine TL.nil ?_
  refine TQ.then_ ?_
  refine TC.ret ?_
  refine TQ.thenR ?_
  obtain rfl := Option.some.inj h
  exact TQ.fin (.inl rfl) rfl Try.results6 (.tmp rfl .nil) rfl (FRel.mk (Ls := []) [] 0 e4 rfl rfl rfl ⟨rfl, rfl⟩)
 ·
  refine TC.skip ?_
  refine TQ.then_ ?_
  refine TC.seq ?_
  refine TC.region ?_
  refine TL.cons (TO.val rfl rfl rfl (Val.build (cs := [.int .i64 8, .int .i64 1, .int .i64 0, .int .i64 0, .int .i64 0, .slice none 0 0]) (is := [0, 1]) (xs := [.const (.int .i64 8), .const (.int .i64 1)]) Try.underlying37 zr37 bld37 rfl rfl rfl rfl) ?_)
  refine TL.cons (TO.val rfl rfl rfl (Val.build (cs := [.int .i64 8, .int .i64 2, .int .i64 0, .int .i64 0, .int .i64 0, .slice none 0 0]) (is := [0, 1]) (xs := [.const (.int .i64 8), .const (.int .i64 2)]) Try.underlying37 zr37 bld37 rfl rfl rfl rfl) ?_)
  refine TL.cons (TO.val rfl rfl rfl (Val.move rfl) ?_)
  refine TL.cons (TO.val rfl rfl rfl (Val.build (cs := [.int .i64 2, .int .i64 3, .int .i64 1, .int .i64 2, .int .i64 a0, .slice none 0 0]) (is := [0, 1, 2, 3, 4]) (xs := [.const (.int .i64 2), .const (.int .i64 3), .const (.int .i64 1), .const (.int .i64 2), .tmp 20]) Try.underlying37 zr37 bld37 rfl rfl rfl rfl) ?_)
  refine TL.cons (TO.val rfl rfl rfl (Val.build (cs := [.int .i64 9, .int .i64 0, .int .i64 3, .int .i64 0, .int .i64 0, .slice none 0 0]) (is := [0, 2]) (xs := [.const (.int .i64 9), .const (.int .i64 3)]) Try.underlying37 zr37 bld37 rfl rfl rfl rfl) ?_)
  refine TL.cons (TL.buildSlice (xs := [.tmp 18, .tmp 19, .tmp 21, .tmp 22]) (vs := [.agg #[.int .i64 8, .int .i64 1, .int .i64 0, .int .i64 0, .int .i64 0, .slice none 0 0], .agg #[.int .i64 8, .int .i64 2, .int .i64 0, .int .i64 0, .int .i64 0, .slice none 0 0], .agg #[.int .i64 2, .int .i64 3, .int .i64 1, .int .i64 2, .int .i64 a0, .slice none 0 0], .agg #[.int .i64 9, .int .i64 0, .int .i64 3, .int .i64 0, .int .i64 0, .slice none 0 0]]) (cs := [.int .i64 8, .int .i64 1, .int .i64 0, .int .i64 0, .int .i64 0, .slice none 0 0, .int .i64 8, .int .i64 2, .int .i64 0, .int .i64 0, .int .i64 0, .slice none 0 0, .int .i64 2, .int .i64 3, .int .i64 1, .int .i64 2, .int .i64 a0, .slice none 0 0, .int .i64 9, .int .i64 0, .int .i64 3, .int .i64 0, .int .i64 0, .slice none 0 0]) rfl rfl Try.underlying38 zs37 rfl rfl rfl rfl rfl rfl rfl rfl (fun b9 => ?_))
  refine TL.cons (TO.val rfl rfl rfl (Val.build (cs := [.int .i64 3, .int .i64 3, .int .i64 0, .int .i64 0]) (is := [0, 1]) (xs := [.const (.int .i64 3), .const (.int .i64 3)]) Try.underlying40 zr40 bld40 rfl rfl rfl rfl) ?_)
  refine TL.cons (TO.val rfl rfl rfl (Val.build (cs := [.slice (some ⟨b9, 0, none⟩) 4 4, .int .i64 3, .int .i64 3, .int .i64 0, .int .i64 0]) (is := [0, 1]) (xs := [.tmp 23, .tmp 24]) Try.underlying42 zr42 bld42 rfl rfl rfl rfl) ?_)
  refine TL.cons (TL.buildSlice (xs := [.tmp 25]) (vs := [.agg #[.slice (some ⟨b9, 0, none⟩) 4 4, .int .i64 3, .int .i64 3, .int .i64 0, .int .i64 0]]) (cs := [.slice (some ⟨b9, 0, none⟩) 4 4, .int .i64 3, .int .i64 3, .int .i64 0, .int .i64 0]) rfl rfl Try.underlying43 zs42 rfl rfl rfl rfl rfl rfl rfl rfl (fun b10 => ?_))
  refine TL.cons (TO.val rfl rfl rfl (Val.build (cs := [.int .i64 0, .slice (some ⟨b10, 0, none⟩) 1 1]) (is := [1]) (xs := [.tmp 26]) Try.underlying45 zr45 bld45 rfl rfl rfl rfl) ?_)
  refine TL.cons (TL.alloc (cs := [.int .i64 0, .slice none 0 0]) rfl rfl zr45 rfl (fun b11 => ?_))
  refine TL.cons (TL.store 0 (ds := [.int .i64 0, .slice (some ⟨b10, 0, none⟩) 1 1]) (cs' := [.int .i64 0, .slice (some ⟨b10, 0, none⟩) 1 1]) (L' := (Blk b11 [.int .i64 0, .slice (some ⟨b10, 0, none⟩) 1 1] 45 :: Blk b10 [.slice (some ⟨b9, 0, none⟩) 4 4, .int .i64 3, .int .i64 3, .int .i64 0, .int .i64 0] 42 :: Blk b9 [.int .i64 8, .int .i64 1, .int .i64 0, .int .i64 0, .int .i64 0, .slice none 0 0, .int .i64 8, .int .i64 2, .int .i64 0, .int .i64 0, .int .i64 0, .slice none 0 0, .int .i64 2, .int .i64 3, .int .i64 1, .int .i64 2, .int .i64 a0, .slice none 0 0, .int .i64 9, .int .i64 0, .int .i64 3, .int .i64 0, .int .i64 0, .slice none 0 0] 37 :: L)) rfl fsz45 rfl rfl rfl rfl rfl (Nat.le_of_ble_eq_true rfl) rfl rfl ?_)
  refine TL.nil ?_
  refine TQ.then_ ?_
  refine TC.seq ?_
  refine TC.region ?_
  refine TL.cons (TO.val rfl rfl rfl (Val.loadsB 0 (cs := [.int .i64 0, .slice (some ⟨b10, 0, none⟩) 1 1]) agg45 fsz45 rfl rfl rfl rfl) ?_)
  refine TL.cons (TL.buildSlice (xs := [.tmp 29]) (vs := [.agg #[.int .i64 0, .slice (some ⟨b10, 0, none⟩) 1 1]]) (cs := [.int .i64 0, .slice (some ⟨b10, 0, none⟩) 1 1]) rfl rfl Try.underlying22 zs45 rfl rfl rfl rfl rfl rfl rfl rfl (fun b12 => ?_))
  refine TL.cons (TO.val rfl rfl rfl (Val.move rfl) ?_)
  refine TL.cons (TO.val rfl rfl rfl (Val.move rfl) ?_)
  refine TL.cons (TL.buildSlice (xs := [.tmp 31, .tmp 32]) (vs := [.int .i64 a1, .int .i64 a2]) (cs := [.int .i64 a1, .int .i64 a2]) rfl rfl Try.underlying23 zs3 rfl rfl rfl rfl rfl rfl rfl rfl (fun b13 => ?_))
  refine TK.new (Els.nil k37) ?_
  refine TK.new (Row.nil (Kd.int .i64) 3) ?_
  refine TK.conv (ch' := El k37 (⟨8, 1, 0, 0, 0, ([] : List Int)⟩ : S37) [.int .i64 8, .int .i64 1, .int .i64 0, .int .i64 0, .int .i64 0, .slice none 0 0]) (fun B W F hh => k37_mkM W B F (⟨8, 1, 0, 0, 0, ([] : List Int)⟩ : S37) hh) ?_
  refine TK.sel (Ls := [Els k37 [] [], El k37 (⟨8, 1, 0, 0, 0, ([] : List Int)⟩ : S37) [.int .i64 8, .int .i64 1, .int .i64 0, .int .i64 0, .int .i64 0, .slice none 0 0], Blk b13 [.int .i64 a1, .int .i64 a2] 3, Blk b12 [.int .i64 0, .slice (some ⟨b10, 0, none⟩) 1 1] 45, Blk b11 [.int .i64 0, .slice (some ⟨b10, 0, none⟩) 1 1] 45, Blk b10 [.slice (some ⟨b9, 0, none⟩) 4 4, .int .i64 3, .int .i64 3, .int .i64 0, .int .i64 0] 42, Blk b9 [.int .i64 8, .int .i64 1, .int .i64 0, .int .i64 0, .int .i64 0, .slice none 0 0, .int .i64 8, .int .i64 2, .int .i64 0, .int .i64 0, .int .i64 0, .slice none 0 0, .int .i64 2, .int .i64 3, .int .i64 1, .int .i64 2, .int .i64 a0, .slice none 0 0, .int .i64 9, .int .i64 0, .int .i64 3, .int .i64 0, .int .i64 0, .slice none 0 0] 37]) [1, 0, 2, 3, 4, 5, 6] 7 rfl rfl rfl ?_
  refine TK.two (ch := Els k37 [(⟨8, 1, 0, 0, 0, ([] : List Int)⟩ : S37)] [.int .i64 8, .int .i64 1, .int .i64 0, .int .i64 0, .int .i64 0, .slice none 0 0]) (Els.snoc k37) ?_
  refine TK.new (Row.nil (Kd.int .i64) 3) ?_
  refine TK.conv (ch' := El k37 (⟨8, 2, 0, 0, 0, ([] : List Int)⟩ : S37) [.int .i64 8, .int .i64 2, .int .i64 0, .int .i64 0, .int .i64 0, .slice none 0 0]) (fun B W F hh => k37_mkM W B F (⟨8, 2, 0, 0, 0, ([] : List Int)⟩ : S37) hh) ?_
  refine TK.sel (Ls := [Els k37 [(⟨8, 1, 0, 0, 0, ([] : List Int)⟩ : S37)] [.int .i64 8, .int .i64 1, .int .i64 0, .int .i64 0, .int .i64 0, .slice none 0 0], El k37 (⟨8, 2, 0, 0, 0, ([] : List Int)⟩ : S37) [.int .i64 8, .int .i64 2, .int .i64 0, .int .i64 0, .int .i64 0, .slice none 0 0], Blk b13 [.int .i64 a1, .int .i64 a2] 3, Blk b12 [.int .i64 0, .slice (some ⟨b10, 0, none⟩) 1 1] 45, Blk b11 [.int .i64 0, .slice (some ⟨b10, 0, none⟩) 1 1] 45, Blk b10 [.slice (some ⟨b9, 0, none⟩) 4 4, .int .i64 3, .int .i64 3, .int .i64 0, .int .i64 0] 42, Blk b9 [.int .i64 8, .int .i64 1, .int .i64 0, .int .i64 0, .int .i64 0, .slice none 0 0, .int .i64 8, .int .i64 2, .int .i64 0, .int .i64 0, .int .i64 0, .slice none 0 0, .int .i64 2, .int .i64 3, .int .i64 1, .int .i64 2, .int .i64 a0, .slice none 0 0, .int .i64 9, .int .i64 0, .int .i64 3, .int .i64 0, .int .i64 0, .slice none 0 0] 37]) [1, 0, 2, 3, 4, 5, 6] 7 rfl rfl rfl ?_
  refine TK.two (ch := Els k37 [(⟨8, 1, 0, 0, 0, ([] : List Int)⟩ : S37), (⟨8, 2, 0, 0, 0, ([] : List Int)⟩ : S37)] [.int .i64 8, .int .i64 1, .int .i64 0, .int .i64 0, .int .i64 0, .slice none 0 0, .int .i64 8, .int .i64 2, .int .i64 0, .int .i64 0, .int .i64 0, .slice none 0 0]) (Els.snoc k37) ?_
  refine TK.new (Row.nil (Kd.int .i64) 3) ?_
  refine TK.conv (ch' := El k37 (⟨2, 3, 1, 2, a0, ([] : List Int)⟩ : S37) [.int .i64 2, .int .i64 3, .int .i64 1, .int .i64 2, .int .i64 a0, .slice none 0 0]) (fun B W F hh => k37_mkM W B F (⟨2, 3, 1, 2, a0, ([] : List Int)⟩ : S37) hh) ?_
  refine TK.sel (Ls := [Els k37 [(⟨8, 1, 0, 0, 0, ([] : List Int)⟩ : S37), (⟨8, 2, 0, 0, 0, ([] : List Int)⟩ : S37)] [.int .i64 8, .int .i64 1, .int .i64 0, .int .i64 0, .int .i64 0, .slice none 0 0, .int .i64 8, .int .i64 2, .int .i64 0, .int .i64 0, .int .i64 0, .slice none 0 0], El k37 (⟨2, 3, 1, 2, a0, ([] : List Int)⟩ : S37) [.int .i64 2, .int .i64 3, .int .i64 1, .int .i64 2, .int .i64 a0, .slice none 0 0], Blk b13 [.int .i64 a1, .int .i64 a2] 3, Blk b12 [.int .i64 0, .slice (some ⟨b10, 0, none⟩) 1 1] 45, Blk b11 [.int .i64 0, .slice (some ⟨b10, 0, none⟩) 1 1] 45, Blk b10 [.slice (some ⟨b9, 0, none⟩) 4 4, .int .i64 3, .int .i64 3, .int .i64 0, .int .i64 0] 42, Blk b9 [.int .i64 8, .int .i64 1, .int .i64 0, .int .i64 0, .int .i64 0, .slice none 0 0, .int .i64 8, .int .i64 2, .int .i64 0, .int .i64 0, .int .i64 0, .slice none 0 0, .int .i64 2, .int .i64 3, .int .i64 1, .int .i64 2, .int .i64 a0, .slice none 0 0, .int .i64 9, .int .i64 0, .int .i64 3, .int .i64 0, .int .i64 0, .slice none 0 0] 37]) [1, 0, 2, 3, 4, 5, 6] 7 rfl rfl rfl ?_
  refine TK.two (ch := Els k37 [(⟨8, 1, 0, 0, 0, ([] : List Int)⟩ : S37), (⟨8, 2, 0, 0, 0, ([] : List Int)⟩ : S37), (⟨2, 3, 1, 2, a0, ([] : List Int)⟩ : S37)] [.int .i64 8, .int .i64 1, .int .i64 0, .int .i64 0, .int .i64 0, .slice none 0 0, .int .i64 8, .int .i64 2, .int .i64 0, .int .i64 0, .int .i64 0, .slice none 0 0, .int .i64 2, .int .i64 3, .int .i64 1, .int .i64 2, .int .i64 a0, .slice none 0 0]) (Els.snoc k37) ?_
  refine TK.new (Row.nil (Kd.int .i64) 3) ?_
  refine TK.conv (ch' := El k37 (⟨9, 0, 3, 0, 0, ([] : List Int)⟩ : S37) [.int .i64 9, .int .i64 0, .int .i64 3, .int .i64 0, .int .i64 0, .slice none 0 0]) (fun B W F hh => k37_mkM W B F (⟨9, 0, 3, 0, 0, ([] : List Int)⟩ : S37) hh) ?_
  refine TK.sel (Ls := [Els k37 [(⟨8, 1, 0, 0, 0, ([] : List Int)⟩ : S37), (⟨8, 2, 0, 0, 0, ([] : List Int)⟩ : S37), (⟨2, 3, 1, 2, a0, ([] : List Int)⟩ : S37)] [.int .i64 8, .int .i64 1, .int .i64 0, .int .i64 0, .int .i64 0, .slice none 0 0, .int .i64 8, .int .i64 2, .int .i64 0, .int .i64 0, .int .i64 0, .slice none 0 0, .int .i64 2, .int .i64 3, .int .i64 1, .int .i64 2, .int .i64 a0, .slice none 0 0], El k37 (⟨9, 0, 3, 0, 0, ([] : List Int)⟩ : S37) [.int .i64 9, .int .i64 0, .int .i64 3, .int .i64 0, .int .i64 0, .slice none 0 0], Blk b13 [.int .i64 a1, .int .i64 a2] 3, Blk b12 [.int .i64 0, .slice (some ⟨b10, 0, none⟩) 1 1] 45, Blk b11 [.int .i64 0, .slice (some ⟨b10, 0, none⟩) 1 1] 45, Blk b10 [.slice (some ⟨b9, 0, none⟩) 4 4, .int .i64 3, .int .i64 3, .int .i64 0, .int .i64 0] 42, Blk b9 [.int .i64 8, .int .i64 1, .int .i64 0, .int .i64 0, .int .i64 0, .slice none 0 0, .int .i64 8, .int .i64 2, .int .i64 0, .int .i64 0, .int .i64 0, .slice none 0 0, .int .i64 2, .int .i64 3, .int .i64 1, .int .i64 2, .int .i64 a0, .slice none 0 0, .int .i64 9, .int .i64 0, .int .i64 3, .int .i64 0, .int .i64 0, .slice none 0 0] 37]) [1, 0, 2, 3, 4, 5, 6] 7 rfl rfl rfl ?_
  refine TK.two (ch := Els k37 [(⟨8, 1, 0, 0, 0, ([] : List Int)⟩ : S37), (⟨8, 2, 0, 0, 0, ([] : List Int)⟩ : S37), (⟨2, 3, 1, 2, a0, ([] : List Int)⟩ : S37), (⟨9, 0, 3, 0, 0, ([] : List Int)⟩ : S37)] [.int .i64 8, .int .i64 1, .int .i64 0, .int .i64 0, .int .i64 0, .slice none 0 0, .int .i64 8, .int .i64 2, .int .i64 0, .int .i64 0, .int .i64 0, .slice none 0 0, .int .i64 2, .int .i64 3, .int .i64 1, .int .i64 2, .int .i64 a0, .slice none 0 0, .int .i64 9, .int .i64 0, .int .i64 3, .int .i64 0, .int .i64 0, .slice none 0 0]) (Els.snoc k37) ?_
  refine TK.sel (Ls := [Blk b9 [.int .i64 8, .int .i64 1, .int .i64 0, .int .i64 0, .int .i64 0, .slice none 0 0, .int .i64 8, .int .i64 2, .int .i64 0, .int .i64 0, .int .i64 0, .slice none 0 0, .int .i64 2, .int .i64 3, .int .i64 1, .int .i64 2, .int .i64 a0, .slice none 0 0, .int .i64 9, .int .i64 0, .int .i64 3, .int .i64 0, .int .i64 0, .slice none 0 0] 37, Els k37 [(⟨8, 1, 0, 0, 0, ([] : List Int)⟩ : S37), (⟨8, 2, 0, 0, 0, ([] : List Int)⟩ : S37), (⟨2, 3, 1, 2, a0, ([] : List Int)⟩ : S37), (⟨9, 0, 3, 0, 0, ([] : List Int)⟩ : S37)] [.int .i64 8, .int .i64 1, .int .i64 0, .int .i64 0, .int .i64 0, .slice none 0 0, .int .i64 8, .int .i64 2, .int .i64 0, .int .i64 0, .int .i64 0, .slice none 0 0, .int .i64 2, .int .i64 3, .int .i64 1, .int .i64 2, .int .i64 a0, .slice none 0 0, .int .i64 9, .int .i64 0, .int .i64 3, .int .i64 0, .int .i64 0, .slice none 0 0], Blk b13 [.int .i64 a1, .int .i64 a2] 3, Blk b12 [.int .i64 0, .slice (some ⟨b10, 0, none⟩) 1 1] 45, Blk b11 [.int .i64 0, .slice (some ⟨b10, 0, none⟩) 1 1] 45, Blk b10 [.slice (some ⟨b9, 0, none⟩) 4 4, .int .i64 3, .int .i64 3, .int .i64 0, .int .i64 0] 42]) [5, 0, 1, 2, 3, 4] 6 rfl rfl rfl ?_
  refine TK.two (ch := Row k37 37 (.slice (some ⟨b9, 0, none⟩) 4 4) ([(⟨8, 1, 0, 0, 0, ([] : List Int)⟩ : S37), (⟨8, 2, 0, 0, 0, ([] : List Int)⟩ : S37), (⟨2, 3, 1, 2, a0, ([] : List Int)⟩ : S37), (⟨9, 0, 3, 0, 0, ([] : List Int)⟩ : S37)] : List S37)) (Row.lit k37 rfl rfl) ?_
  refine TK.new (Els.nil k42) ?_
  refine TK.sel (Ls := [Row k37 37 (.slice (some ⟨b9, 0, none⟩) 4 4) ([(⟨8, 1, 0, 0, 0, ([] : List Int)⟩ : S37), (⟨8, 2, 0, 0, 0, ([] : List Int)⟩ : S37), (⟨2, 3, 1, 2, a0, ([] : List Int)⟩ : S37), (⟨9, 0, 3, 0, 0, ([] : List Int)⟩ : S37)] : List S37), Els k42 [] [], Blk b13 [.int .i64 a1, .int .i64 a2] 3, Blk b12 [.int .i64 0, .slice (some ⟨b10, 0, none⟩) 1 1] 45, Blk b11 [.int .i64 0, .slice (some ⟨b10, 0, none⟩) 1 1] 45, Blk b10 [.slice (some ⟨b9, 0, none⟩) 4 4, .int .i64 3, .int .i64 3, .int .i64 0, .int .i64 0] 42]) [1, 0, 2, 3, 4, 5] 6 rfl rfl rfl ?_
  refine TK.conv (ch' := El k42 (⟨([(⟨8, 1, 0, 0, 0, ([] : List Int)⟩ : S37), (⟨8, 2, 0, 0, 0, ([] : List Int)⟩ : S37), (⟨2, 3, 1, 2, a0, ([] : List Int)⟩ : S37), (⟨9, 0, 3, 0, 0, ([] : List Int)⟩ : S37)] : List S37), (⟨3, 3, 0, 0⟩ : S40)⟩ : S42) [.slice (some ⟨b9, 0, none⟩) 4 4, .int .i64 3, .int .i64 3, .int .i64 0, .int .i64 0]) (fun B W F hh => k42_mkM W B F (⟨([(⟨8, 1, 0, 0, 0, ([] : List Int)⟩ : S37), (⟨8, 2, 0, 0, 0, ([] : List Int)⟩ : S37), (⟨2, 3, 1, 2, a0, ([] : List Int)⟩ : S37), (⟨9, 0, 3, 0, 0, ([] : List Int)⟩ : S37)] : List S37), (⟨3, 3, 0, 0⟩ : S40)⟩ : S42) hh) ?_
  refine TK.sel (Ls := [Els k42 [] [], El k42 (⟨([(⟨8, 1, 0, 0, 0, ([] : List Int)⟩ : S37), (⟨8, 2, 0, 0, 0, ([] : List Int)⟩ : S37), (⟨2, 3, 1, 2, a0, ([] : List Int)⟩ : S37), (⟨9, 0, 3, 0, 0, ([] : List Int)⟩ : S37)] : List S37), (⟨3, 3, 0, 0⟩ : S40)⟩ : S42) [.slice (some ⟨b9, 0, none⟩) 4 4, .int .i64 3, .int .i64 3, .int .i64 0, .int .i64 0], Blk b13 [.int .i64 a1, .int .i64 a2] 3, Blk b12 [.int .i64 0, .slice (some ⟨b10, 0, none⟩) 1 1] 45, Blk b11 [.int .i64 0, .slice (some ⟨b10, 0, none⟩) 1 1] 45, Blk b10 [.slice (some ⟨b9, 0, none⟩) 4 4, .int .i64 3, .int .i64 3, .int .i64 0, .int .i64 0] 42]) [1, 0, 2, 3, 4, 5] 6 rfl rfl rfl ?_
  refine TK.two (ch := Els k42 [(⟨([(⟨8, 1, 0, 0, 0, ([] : List Int)⟩ : S37), (⟨8, 2, 0, 0, 0, ([] : List Int)⟩ : S37), (⟨2, 3, 1, 2, a0, ([] : List Int)⟩ : S37), (⟨9, 0, 3, 0, 0, ([] : List Int)⟩ : S37)] : List S37), (⟨3, 3, 0, 0⟩ : S40)⟩ : S42)] [.slice (some ⟨b9, 0, none⟩) 4 4, .int .i64 3, .int .i64 3, .int .i64 0, .int .i64 0]) (Els.snoc k42) ?_
  refine TK.sel (Ls := [Blk b10 [.slice (some ⟨b9, 0, none⟩) 4 4, .int .i64 3, .int .i64 3, .int .i64 0, .int .i64 0] 42, Els k42 [(⟨([(⟨8, 1, 0, 0, 0, ([] : List Int)⟩ : S37), (⟨8, 2, 0, 0, 0, ([] : List Int)⟩ : S37), (⟨2, 3, 1, 2, a0, ([] : List Int)⟩ : S37), (⟨9, 0, 3, 0, 0, ([] : List Int)⟩ : S37)] : List S37), (⟨3, 3, 0, 0⟩ : S40)⟩ : S42)] [.slice (some ⟨b9, 0, none⟩) 4 4, .int .i64 3, .int .i64 3, .int .i64 0, .int .i64 0], Blk b13 [.int .i64 a1, .int .i64 a2] 3, Blk b12 [.int .i64 0, .slice (some ⟨b10, 0, none⟩) 1 1] 45, Blk b11 [.int .i64 0, .slice (some ⟨b10, 0, none⟩) 1 1] 45]) [4, 0, 1, 2, 3] 5 rfl rfl rfl ?_
  refine TK.two (ch := Row k42 42 (.slice (some ⟨b10, 0, none⟩) 1 1) ([(⟨([(⟨8, 1, 0, 0, 0, ([] : List Int)⟩ : S37), (⟨8, 2, 0, 0, 0, ([] : List Int)⟩ : S37), (⟨2, 3, 1, 2, a0, ([] : List Int)⟩ : S37), (⟨9, 0, 3, 0, 0, ([] : List Int)⟩ : S37)] : List S37), (⟨3, 3, 0, 0⟩ : S40)⟩ : S42)] : List S42)) (Row.lit k42 rfl rfl) ?_
  refine TK.new (Els.nil k45) ?_
  refine TK.sel (Ls := [Row k42 42 (.slice (some ⟨b10, 0, none⟩) 1 1) ([(⟨([(⟨8, 1, 0, 0, 0, ([] : List Int)⟩ : S37), (⟨8, 2, 0, 0, 0, ([] : List Int)⟩ : S37), (⟨2, 3, 1, 2, a0, ([] : List Int)⟩ : S37), (⟨9, 0, 3, 0, 0, ([] : List Int)⟩ : S37)] : List S37), (⟨3, 3, 0, 0⟩ : S40)⟩ : S42)] : List S42), Els k45 [] [], Blk b13 [.int .i64 a1, .int .i64 a2] 3, Blk b12 [.int .i64 0, .slice (some ⟨b10, 0, none⟩) 1 1] 45, Blk b11 [.int .i64 0, .slice (some ⟨b10, 0, none⟩) 1 1] 45]) [1, 0, 2, 3, 4] 5 rfl rfl rfl ?_
  refine TK.conv (ch' := El k45 (⟨0, ([(⟨([(⟨8, 1, 0, 0, 0, ([] : List Int)⟩ : S37), (⟨8, 2, 0, 0, 0, ([] : List Int)⟩ : S37), (⟨2, 3, 1, 2, a0, ([] : List Int)⟩ : S37), (⟨9, 0, 3, 0, 0, ([] : List Int)⟩ : S37)] : List S37), (⟨3, 3, 0, 0⟩ : S40)⟩ : S42)] : List S42)⟩ : S45) [.int .i64 0, .slice (some ⟨b10, 0, none⟩) 1 1]) (fun B W F hh => k45_mkM W B F (⟨0, ([(⟨([(⟨8, 1, 0, 0, 0, ([] : List Int)⟩ : S37), (⟨8, 2, 0, 0, 0, ([] : List Int)⟩ : S37), (⟨2, 3, 1, 2, a0, ([] : List Int)⟩ : S37), (⟨9, 0, 3, 0, 0, ([] : List Int)⟩ : S37)] : List S37), (⟨3, 3, 0, 0⟩ : S40)⟩ : S42)] : List S42)⟩ : S45) hh) ?_
  refine TK.sel (Ls := [Els k45 [] [], El k45 (⟨0, ([(⟨([(⟨8, 1, 0, 0, 0, ([] : List Int)⟩ : S37), (⟨8, 2, 0, 0, 0, ([] : List Int)⟩ : S37), (⟨2, 3, 1, 2, a0, ([] : List Int)⟩ : S37), (⟨9, 0, 3, 0, 0, ([] : List Int)⟩ : S37)] : List S37), (⟨3, 3, 0, 0⟩ : S40)⟩ : S42)] : List S42)⟩ : S45) [.int .i64 0, .slice (some ⟨b10, 0, none⟩) 1 1], Blk b13 [.int .i64 a1, .int .i64 a2] 3, Blk b12 [.int .i64 0, .slice (some ⟨b10, 0, none⟩) 1 1] 45, Blk b11 [.int .i64 0, .slice (some ⟨b10, 0, none⟩) 1 1] 45]) [1, 0, 2, 3, 4] 5 rfl rfl rfl ?_
  refine TK.two (ch := Els k45 [(⟨0, ([(⟨([(⟨8, 1, 0, 0, 0, ([] : List Int)⟩ : S37), (⟨8, 2, 0, 0, 0, ([] : List Int)⟩ : S37), (⟨2, 3, 1, 2, a0, ([] : List Int)⟩ : S37), (⟨9, 0, 3, 0, 0, ([] : List Int)⟩ : S37)] : List S37), (⟨3, 3, 0, 0⟩ : S40)⟩ : S42)] : List S42)⟩ : S45)] [.int .i64 0, .slice (some ⟨b10, 0, none⟩) 1 1]) (Els.snoc k45) ?_
  refine TK.sel (Ls := [Blk b12 [.int .i64 0, .slice (some ⟨b10, 0, none⟩) 1 1] 45, Els k45 [(⟨0, ([(⟨([(⟨8, 1, 0, 0, 0, ([] : List Int)⟩ : S37), (⟨8, 2, 0, 0, 0, ([] : List Int)⟩ : S37), (⟨2, 3, 1, 2, a0, ([] : List Int)⟩ : S37), (⟨9, 0, 3, 0, 0, ([] : List Int)⟩ : S37)] : List S37), (⟨3, 3, 0, 0⟩ : S40)⟩ : S42)] : List S42)⟩ : S45)] [.int .i64 0, .slice (some ⟨b10, 0, none⟩) 1 1], Blk b13 [.int .i64 a1, .int .i64 a2] 3, Blk b11 [.int .i64 0, .slice (some ⟨b10, 0, none⟩) 1 1] 45]) [2, 0, 1, 3] 4 rfl rfl rfl ?_
  refine TK.two (ch := Row k45 45 (.slice (some ⟨b12, 0, none⟩) 1 1) ([(⟨0, ([(⟨([(⟨8, 1, 0, 0, 0, ([] : List Int)⟩ : S37), (⟨8, 2, 0, 0, 0, ([] : List Int)⟩ : S37), (⟨2, 3, 1, 2, a0, ([] : List Int)⟩ : S37), (⟨9, 0, 3, 0, 0, ([] : List Int)⟩ : S37)] : List S37), (⟨3, 3, 0, 0⟩ : S40)⟩ : S42)] : List S42)⟩ : S45)] : List S45)) (Row.lit k45 rfl rfl) ?_
  refine TK.share (fun G21 e22 hs23 hb24 => ?_)
  have rd25 : Rd G21 k45 (some ⟨b12, 0, none⟩) ([(⟨0, ([(⟨([(⟨8, 1, 0, 0, 0, ([] : List Int)⟩ : S37), (⟨8, 2, 0, 0, 0, ([] : List Int)⟩ : S37), (⟨2, 3, 1, 2, a0, ([] : List Int)⟩ : S37), (⟨9, 0, 3, 0, 0, ([] : List Int)⟩ : S37)] : List S37), (⟨3, 3, 0, 0⟩ : S40)⟩ : S42)] : List S42)⟩ : S45)] : List S45) := Rd.row hs23
  have le26 : ([(⟨0, ([(⟨([(⟨8, 1, 0, 0, 0, ([] : List Int)⟩ : S37), (⟨8, 2, 0, 0, 0, ([] : List Int)⟩ : S37), (⟨2, 3, 1, 2, a0, ([] : List Int)⟩ : S37), (⟨9, 0, 3, 0, 0, ([] : List Int)⟩ : S37)] : List S37), (⟨3, 3, 0, 0⟩ : S40)⟩ : S42)] : List S42)⟩ : S45)] : List S45).length ≤ 1 := Row.le hs23
  refine TK.new (Els.nil (Kd.int .i64)) ?_
  refine TK.new (El.of (k := (Kd.int .i64)) (xv := a1) (cs := [.int .i64 a1]) (fun W B => rfl)) ?_
  refine TK.sel (Ls := [Els (Kd.int .i64) [] [], El (Kd.int .i64) a1 [.int .i64 a1], Blk b13 [.int .i64 a1, .int .i64 a2] 3, Blk b11 [.int .i64 0, .slice (some ⟨b10, 0, none⟩) 1 1] 45]) [1, 0, 2, 3] 4 rfl rfl rfl ?_
  refine TK.two (ch := Els (Kd.int .i64) [a1] [.int .i64 a1]) (Els.snoc (Kd.int .i64)) ?_
  refine TK.new (El.of (k := (Kd.int .i64)) (xv := a2) (cs := [.int .i64 a2]) (fun W B => rfl)) ?_
  refine TK.sel (Ls := [Els (Kd.int .i64) [a1] [.int .i64 a1], El (Kd.int .i64) a2 [.int .i64 a2], Blk b13 [.int .i64 a1, .int .i64 a2] 3, Blk b11 [.int .i64 0, .slice (some ⟨b10, 0, none⟩) 1 1] 45]) [1, 0, 2, 3] 4 rfl rfl rfl ?_
  refine TK.two (ch := Els (Kd.int .i64) [a1, a2] [.int .i64 a1, .int .i64 a2]) (Els.snoc (Kd.int .i64)) ?_
  refine TK.sel (Ls := [Blk b13 [.int .i64 a1, .int .i64 a2] 3, Els (Kd.int .i64) [a1, a2] [.int .i64 a1, .int .i64 a2], Blk b11 [.int .i64 0, .slice (some ⟨b10, 0, none⟩) 1 1] 45]) [1, 0, 2] 3 rfl rfl rfl ?_
  refine TK.two (ch := Row (Kd.int .i64) 3 (.slice (some ⟨b13, 0, none⟩) 2 2) ([a1, a2] : List Int)) (Row.lit (Kd.int .i64) rfl rfl) ?_
  refine TK.share (fun G28 e29 hs30 hb31 => ?_)
  have rd32 : Rd G28 (Kd.int .i64) (some ⟨b13, 0, none⟩) ([a1, a2] : List Int) := Rd.row hs30
  have le33 : ([a1, a2] : List Int).length ≤ 2 := Row.le hs30
  obtain ⟨y34, hy35, h⟩ := bind_no h
  refine TL.cons (TL.callV (Lin := []) (args := [.slice (some ⟨b12, 0, none⟩) 1 1, .int .i64 2, .slice (some ⟨b13, 0, none⟩) 2 2, .int .i64 9]) rfl rfl rfl hbd11 rfl rfl (trace_Run.calls (a0 := ([(⟨0, ([(⟨([(⟨8, 1, 0, 0, 0, ([] : List Int)⟩ : S37), (⟨8, 2, 0, 0, 0, ([] : List Int)⟩ : S37), (⟨2, 3, 1, 2, a0, ([] : List Int)⟩ : S37), (⟨9, 0, 3, 0, 0, ([] : List Int)⟩ : S37)] : List S37), (⟨3, 3, 0, 0⟩ : S40)⟩ : S42)] : List S42)⟩ : S45)] : List S45)) (a1 := 2) (a2 := ([a1, a2] : List Int)) (a3 := 9) (rd25.up e29) le26 rd32 le33 hy35) rfl ?_)
  rintro _ _ _ _ ⟨rfl, A36, c37, rfl, rfl⟩
  refine TL.cons (TO.val rfl rfl rfl (Val.move rfl) ?_)
  refine TL.cons (TO.val rfl rfl rfl (Val.extract rfl rfl) ?_)
  refine TL.cons (TO.val rfl rfl rfl (Val.extract rfl rfl) ?_)
  refine TL.cons (TL.alloc (cs := [.slice none 0 0, .int .i64 0, .int .i64 0, .int .i64 0, .int .i64 0]) rfl rfl zr28 rfl (fun b39 => ?_))
  refine TL.cons (TL.store 0 (ds := [.slice A36 y34.1.f0.length c37, .int .i64 y34.1.f1, .int .i64 y34.1.f2, .int .i64 y34.1.f3, .int .i64 y34.1.f4]) (cs' := [.slice A36 y34.1.f0.length c37, .int .i64 y34.1.f1, .int .i64 y34.1.f2, .int .i64 y34.1.f3, .int .i64 y34.1.f4]) (L' := (Blk b39 [.slice A36 y34.1.f0.length c37, .int .i64 y34.1.f1, .int .i64 y34.1.f2, .int .i64 y34.1.f3, .int .i64 y34.1.f4] 28 :: Row (Kd.int .i64) 3 (.slice A36 y34.1.f0.length c37) y34.1.f0 :: Blk b11 [.int .i64 0, .slice (some ⟨b10, 0, none⟩) 1 1] 45 :: L)) rfl fsz28 rfl rfl rfl rfl rfl (Nat.le_of_ble_eq_true rfl) rfl rfl ?_)
  refine TL.cons (TO.val rfl rfl rfl (Val.assign rfl) ?_)
  refine TL.nil ?_
  refine TQ.then_ ?_
  refine TC.seq ?_
  refine TC.region ?_
  refine TL.cons (TO.val rfl rfl rfl (Val.move rfl) ?_)
  refine TL.cons (TO.val rfl rfl rfl (Val.move rfl) ?_)
  refine TL.cons (TO.val rfl rfl rfl (Val.move rfl) ?_)
  obtain ⟨y40, hy41, h⟩ := bind_no h
  refine TL.cons (TL.callV (Lin := []) (args := [.int .i64 a0, .int .i64 a1, .int .i64 a2]) rfl rfl rfl hbd19 rfl rfl (word_Do.calls (a0 := a0) (a1 := a1) (a2 := a2) hy41) rfl ?_)
  rintro _ _ _ _ ⟨rfl, rfl, rfl⟩
  refine TL.cons (TO.val rfl rfl rfl (Val.move rfl) ?_)
  refine TL.cons (TO.val rfl rfl rfl (Val.extract rfl rfl) ?_)
  refine TL.cons (TO.val rfl rfl rfl (Val.extract rfl rfl) ?_)
  refine TL.cons (TO.val rfl rfl rfl (Val.assign rfl) ?_)
  refine TL.cons (TO.val rfl rfl rfl (Val.assign rfl) ?_)
  refine TL.nil ?_
  refine TQ.then_ ?_
  refine TC.seq ?_
  refine TC.seq ?_
  refine TC.back hb31 ?_
  refine TC.back hb24 ?_
  obtain ⟨j48, hj48, h⟩ := jn_no h
  refine TC.tail (fun a W => ∃ (x47 : Bool) (G45 : Gd), j48 x47 = some r ∧ G.le G45 ∧ Fr 69 a [(7, .bool y1), (9, .pointer (some ⟨b39, 0, none⟩)), (11, .int .i64 y40.1), (12, .int .i64 y40.2), (51, .bool x47)] ∧ Own G45 (Blk b39 [.slice A36 y34.1.f0.length c37, .int .i64 y34.1.f1, .int .i64 y34.1.f2, .int .i64 y34.1.f3, .int .i64 y34.1.f4] 28 :: Row (Kd.int .i64) 3 (.slice A36 y34.1.f0.length c37) y34.1.f0 :: L) W) ?_ ?_
  ·
   rintro a W ⟨x47, G45, h, e46, hF, hO⟩
   rw [hj48] at h
   refine TQ.use ?_ hF hO
   clear hF hO
   refine TQ.then_ ?_
   refine TC.cond_b rfl h (fun hc50 h => ?_) (fun hc50 h => ?_)
   ·
    refine TC.seq ?_
    refine TC.region ?_
    refine TL.cons (TO.val rfl rfl rfl (Val.assign rfl) ?_)
    refine TL.nil ?_
    refine TQ.then_ ?_
    refine TC.ret ?_
    refine TQ.thenR ?_
    obtain rfl := Option.some.inj h
    exact TQ.fin (.inl rfl) rfl Try.results6 (.tmp rfl .nil) rfl (FRel.mk (Ls := []) [] 2 e46 rfl rfl rfl ⟨rfl, rfl⟩)
   ·
    refine TC.skip ?_
    refine TQ.then_ ?_
    refine TC.seq ?_
    refine TC.seq ?_
    refine TC.region ?_
    refine TL.cons (TO.val rfl rfl rfl (Val.move rfl) ?_)
    refine TL.cons (TO.val rfl rfl rfl (Val.cmp rfl rfl run_neq) ?_)
    refine TL.nil ?_
    refine TQ.then_ ?_
    refine TC.cond_b rfl h (fun hc58 h => ?_) (fun hc58 h => ?_)
    ·
     refine TC.seq ?_
     refine TC.region ?_
     refine TL.cons (TO.val rfl rfl rfl (Val.move rfl) ?_)
     refine TL.cons (TO.val rfl rfl rfl (Val.move rfl) ?_)
     refine TK.split (p := y1 = true) h (fun hg62 h => ?_) (fun hg62 h => ?_)
     ·
      have hk63 : y1 = true := hg62
      refine TL.cons (TO.val (Wt.yes rfl rfl rfl hk63) rfl rfl (Val.fieldAddrB Try.underlying28 rfl fsz23 rfl rfl rfl) ?_)
      refine TL.cons (TO.val (Wt.yes rfl rfl rfl hk63) rfl rfl (Val.loadB 0 agg23 rfl rfl rfl) ?_)
      refine TL.cons (TO.val (Wt.yes rfl rfl rfl hk63) rfl rfl (Val.len Try.underlying23 rfl) ?_)
      refine TL.cons (TO.val (Wt.yes rfl rfl rfl hk63) rfl rfl (Val.cmp rfl rfl run_eql) ?_)
      refine TL.cons (TO.val rfl rfl rfl (Val.pickY rfl hk63 rfl) ?_)
      refine TL.cons (TO.val rfl rfl rfl (Val.assign rfl) ?_)
      refine TL.nil ?_
      refine TQ.then_ ?_
      refine TC.ret ?_
      refine TQ.thenR ?_
      obtain rfl := Option.some.inj h
      exact TQ.fin (.inl rfl) rfl Try.results6 (.tmp rfl .nil) rfl (FRel.mk (Ls := []) [] 2 e46 rfl rfl rfl ⟨rfl, rfl⟩)
     ·
      have hk64 : y1 = false := (by simpa using hg62)
      refine TL.cons (TL.not (Wt.no rfl rfl rfl hk64) rfl ?_)
      refine TL.cons (TL.not (Wt.no rfl rfl rfl hk64) rfl ?_)
      refine TL.cons (TL.not (Wt.no rfl rfl rfl hk64) rfl ?_)
      refine TL.cons (TL.not (Wt.no rfl rfl rfl hk64) rfl ?_)
      refine TL.cons (TO.val rfl rfl rfl (Val.pickN rfl hk64 rfl) ?_)
      refine TL.cons (TO.val rfl rfl rfl (Val.assign rfl) ?_)
      refine TL.nil ?_
      refine TQ.then_ ?_
      refine TC.ret ?_
      refine TQ.thenR ?_
      obtain rfl := Option.some.inj h
      exact TQ.fin (.inl rfl) rfl Try.results6 (.tmp rfl .nil) rfl (FRel.mk (Ls := []) [] 2 e46 rfl rfl rfl ⟨rfl, rfl⟩)
    ·
     refine TC.skip ?_
     refine TQ.then_ ?_
     refine TC.seq ?_
     refine TC.region ?_
     refine TL.cons (TO.val rfl rfl rfl (Val.move rfl) ?_)
     refine TL.cons (TO.val rfl rfl rfl (Val.move rfl) ?_)
     refine TK.split (p := y1 = true) h (fun hg84 h => ?_) (fun hg84 h => ?_)
     ·
      have hk85 : y1 = true := hg84
      refine TL.cons (TO.val (Wt.yes rfl rfl rfl hk85) rfl rfl (Val.fieldAddrB Try.underlying28 rfl fsz23 rfl rfl rfl) ?_)
      refine TL.cons (TO.val (Wt.yes rfl rfl rfl hk85) rfl rfl (Val.loadB 0 agg23 rfl rfl rfl) ?_)
      refine TL.cons (TO.val (Wt.yes rfl rfl rfl hk85) rfl rfl (Val.move rfl) ?_)
      refine TL.cons (TL.buildSlice (xs := [.tmp 65]) (vs := [.int .i64 y40.1]) (cs := [.int .i64 y40.1]) (Wt.yes rfl rfl rfl hk85) rfl Try.underlying23 zs3 rfl rfl rfl rfl rfl rfl rfl rfl (fun b86 => ?_))
      refine TK.sel (Ls := [Row (Kd.int .i64) 3 (.slice A36 y34.1.f0.length c37) y34.1.f0, Blk b86 [.int .i64 y40.1] 3, Blk b39 [.slice A36 y34.1.f0.length c37, .int .i64 y34.1.f1, .int .i64 y34.1.f2, .int .i64 y34.1.f3, .int .i64 y34.1.f4] 28]) [2, 0, 1] 3 rfl rfl rfl ?_
      refine TK.share (fun G87 e88 hs89 hb90 => ?_)
      have rd91 : Rd G87 (Kd.int .i64) A36 y34.1.f0 := Rd.row hs89
      have le92 : y34.1.f0.length ≤ c37 := Row.le hs89
      refine TK.new (Els.nil (Kd.int .i64)) ?_
      refine TK.new (El.of (k := (Kd.int .i64)) (xv := y40.1) (cs := [.int .i64 y40.1]) (fun W B => rfl)) ?_
      refine TK.sel (Ls := [Els (Kd.int .i64) [] [], El (Kd.int .i64) y40.1 [.int .i64 y40.1], Blk b86 [.int .i64 y40.1] 3, Blk b39 [.slice A36 y34.1.f0.length c37, .int .i64 y34.1.f1, .int .i64 y34.1.f2, .int .i64 y34.1.f3, .int .i64 y34.1.f4] 28]) [1, 0, 2, 3] 4 rfl rfl rfl ?_
      refine TK.two (ch := Els (Kd.int .i64) [y40.1] [.int .i64 y40.1]) (Els.snoc (Kd.int .i64)) ?_
      refine TK.sel (Ls := [Blk b86 [.int .i64 y40.1] 3, Els (Kd.int .i64) [y40.1] [.int .i64 y40.1], Blk b39 [.slice A36 y34.1.f0.length c37, .int .i64 y34.1.f1, .int .i64 y34.1.f2, .int .i64 y34.1.f3, .int .i64 y34.1.f4] 28]) [1, 0, 2] 3 rfl rfl rfl ?_
      refine TK.two (ch := Row (Kd.int .i64) 3 (.slice (some ⟨b86, 0, none⟩) 1 1) ([y40.1] : List Int)) (Row.lit (Kd.int .i64) rfl rfl) ?_
      refine TK.share (fun G94 e95 hs96 hb97 => ?_)
      have rd98 : Rd G94 (Kd.int .i64) (some ⟨b86, 0, none⟩) ([y40.1] : List Int) := Rd.row hs96
      have le99 : ([y40.1] : List Int).length ≤ 1 := Row.le hs96
      obtain ⟨y100, hy101, h⟩ := bind_no h
      refine TL.cons (TL.callV (Lin := []) (args := [.slice A36 y34.1.f0.length c37, .slice (some ⟨b86, 0, none⟩) 1 1]) (Wt.yes rfl rfl rfl hk85) rfl rfl hbd14 rfl rfl (swageref02_Ints.calls (a0 := y34.1.f0) (a1 := ([y40.1] : List Int)) (rd91.up e95) le92 rd98 le99 hy101) rfl ?_)
      rintro _ _ _ _ ⟨rfl, rfl, rfl⟩
      refine TL.cons (TO.val rfl rfl rfl (Val.pickY rfl hk85 rfl) ?_)
      refine TL.cons (TO.val rfl rfl rfl (Val.assign rfl) ?_)
      refine TL.nil ?_
      refine TQ.then_ ?_
      refine TC.ret ?_
      refine TQ.back hb97 ?_
      refine TQ.back hb90 ?_
      obtain rfl := Option.some.inj h
      exact TQ.fin (.inl rfl) rfl Try.results6 (.tmp rfl .nil) rfl (FRel.mk (Ls := []) [] 3 e46 rfl rfl rfl ⟨rfl, rfl⟩)
     ·
      have hk102 : y1 = false := (by simpa using hg84)
      refine TL.cons (TL.not (Wt.no rfl rfl rfl hk102) rfl ?_)
      refine TL.cons (TL.not (Wt.no rfl rfl rfl hk102) rfl ?_)
      refine TL.cons (TL.not (Wt.no rfl rfl rfl hk102) rfl ?_)
      refine TL.cons (TL.not (Wt.no rfl rfl rfl hk102) rfl ?_)
      refine TL.cons (TL.not (Wt.no rfl rfl rfl hk102) rfl ?_)
      refine TL.cons (TO.val rfl rfl rfl (Val.pickN rfl hk102 rfl) ?_)
      refine TL.cons (TO.val rfl rfl rfl (Val.assign rfl) ?_)
      refine TL.nil ?_
      refine TQ.then_ ?_
      refine TC.ret ?_
      obtain rfl := Option.some.inj h
      exact TQ.fin (.inl rfl) rfl Try.results6 (.tmp rfl .nil) rfl (FRel.mk (Ls := []) [] 2 e46 rfl rfl rfl ⟨rfl, rfl⟩)
  ·
   refine TC.region ?_
   refine TL.cons (TO.val rfl rfl rfl (Val.move rfl) ?_)
   refine TL.cons (TO.val rfl rfl rfl (Val.cmp rfl rfl run_neq) ?_)
   refine TL.cons (TO.val rfl rfl rfl (Val.move rfl) ?_)
   refine TK.split (p := (!decide (y34.2 = 0)) = true) h (fun hg103 h => ?_) (fun hg103 h => ?_)
   ·
    have hk104 : (!decide (y34.2 = 0)) = true := hg103
    refine TL.cons (TL.not (Wt.no rfl rfl rfl hk104) rfl ?_)
    refine TL.cons (TL.not (Wt.no rfl rfl rfl hk104) rfl ?_)
    refine TL.cons (TL.not (Wt.no rfl rfl rfl hk104) rfl ?_)
    refine TL.cons (TL.not (Wt.no rfl rfl rfl hk104) rfl ?_)
    refine TL.cons (TO.val rfl rfl rfl (Val.pickY rfl hk104 rfl) ?_)
    refine TL.nil ?_
    exact fun a W hF hO => ⟨true, G3, h, e4, hF.sub ⟨rfl, rfl, rfl, rfl, rfl, trivial⟩, hO.selT (Ls := [Blk b39 [.slice A36 y34.1.f0.length c37, .int .i64 y34.1.f1, .int .i64 y34.1.f2, .int .i64 y34.1.f3, .int .i64 y34.1.f4] 28, Row (Kd.int .i64) 3 (.slice A36 y34.1.f0.length c37) y34.1.f0]) [2, 3] 5 rfl rfl rfl⟩
   ·
    have hk105 : (!decide (y34.2 = 0)) = false := (by simpa using hg103)
    refine TL.cons (TO.val (Wt.yes rfl rfl rfl hk105) rfl rfl (Val.fieldAddrB Try.underlying28 rfl fsz26 rfl rfl rfl) ?_)
    refine TL.cons (TO.val (Wt.yes rfl rfl rfl hk105) rfl rfl (Val.loadB 2 agg26 rfl rfl rfl) ?_)
    refine TL.cons (TO.val (Wt.yes rfl rfl rfl hk105) rfl rfl (Val.move rfl) ?_)
    refine TL.cons (TO.val (Wt.yes rfl rfl rfl hk105) rfl rfl (Val.cmp rfl rfl run_neq) ?_)
    refine TL.cons (TO.val rfl rfl rfl (Val.pickN rfl hk105 rfl) ?_)
    refine TL.nil ?_
    exact fun a W hF hO => ⟨(!decide (y34.1.f1 = y40.2)), G3, h, e4, hF.sub ⟨rfl, rfl, rfl, rfl, rfl, trivial⟩, hO.selT (Ls := [Blk b39 [.slice A36 y34.1.f0.length c37, .int .i64 y34.1.f1, .int .i64 y34.1.f2, .int .i64 y34.1.f3, .int .i64 y34.1.f4] 28, Row (Kd.int .i64) 3 (.slice A36 y34.1.f0.length c37) y34.1.f0]) [2, 3] 5 rfl rfl rfl⟩
end Go.Proofs.Ytfmocegnpmomnaa.Sy
set_option linter.unusedVariables false
set_option linter.unusedSimpArgs false
namespace Go.Proofs.Ytfmocegnpmomnaa.Sy
open Go Go.RowKit Go.Proofs.YtfmocegnpmomnaaW.PrintWords Go.Proofs.Ytfmocegnpmomnaa.SyO
theorem small15 : swagelaw15_small.f = some true := by decide +kernel
theorem callf_eq : trace_runner_call.f = trace_runner_call.g (trace_runner_call.fix 99999).1 (trace_runner_block.g (trace_runner_call.fix 99998).1 (trace_runner_call.fix 99998).2.1 (trace_runner_value.g (trace_runner_call.fix 99997).1 (trace_runner_call.fix 99997).2.1 (trace_runner_call.fix 99997).2.2)) (trace_runner_call.fix 99999).2.2 := rfl
/-- The law's function: two numbers are read, and reckoned with. -/
abbrev rkF (k : Int) : S45 := ⟨0, [(⟨[(⟨8, 1, 0, 0, 0, []⟩ : S37), (⟨8, 2, 0, 0, 0, []⟩ : S37), (⟨2, 3, 1, 2, k, []⟩ : S37), (⟨9, 0, 3, 0, 0, []⟩ : S37)], (⟨3, 3, 0, 0⟩ : S40)⟩ : S42)]⟩
theorem fourteen {n : Int} (h1 : 1 ≤ n) (h9 : n ≤ 14) : n = 1 ∨ n = 2 ∨ n = 3 ∨ n = 4 ∨ n = 5 ∨ n = 6 ∨ n = 7 ∨ n = 8 ∨ n = 9 ∨ n = 10 ∨ n = 11 ∨ n = 12 ∨ n = 13 ∨ n = 14 := by omega
theorem rk_prog {k : Int} (h1 : 1 ≤ k) (h2 : k ≤ 14) : code_Program.f [rkF k] = some true ∧ code_Regs.f (rkF k) = some 3 := by
  rcases fourteen h1 h2 with h | h | h | h | h | h | h | h | h | h | h | h | h | h <;> subst h <;> exact ⟨by decide +kernel, by decide +kernel⟩
theorem wrap_small {n : Int} (h0 : -1000000 ≤ n) (h1 : n ≤ 1000000) : IntKind.i64.wrap n = n := by
  rw [IntKind.wrap_i64]; omega
theorem rk_block {k a b n e : Int} (h : word_Do.f k a b = some (n, e)) (X3) (X4) (X5) (X6) (X7) : trace_runner_block.g X3 X4 (trace_runner_value.g X5 X6 X7) [rkF k] [0, 0] 1 2 [a, b] 9 1 [] 0 0 0 0 (⟨[(⟨8, 1, 0, 0, 0, []⟩ : S37), (⟨8, 2, 0, 0, 0, []⟩ : S37), (⟨2, 3, 1, 2, k, []⟩ : S37), (⟨9, 0, 3, 0, 0, []⟩ : S37)], (⟨3, 3, 0, 0⟩ : S40)⟩ : S42) [0, 0, 0, 0] =
    some (if e = 0 then (0, [0, 0], 1, [], 4, 1, [n], 0, 0, 0, [0, a, b, n]) else (e, [0, 0], 1, [], 6, 1, [], 0, 0, 0, [0, a, b, 0])) := by
  by_cases he : e = 0
  · subst he
    simp [at?, wrap_small, trace_runner_block.g, trace_runner_block.l0, trace_runner_pay.f, trace_runner_value.g, trace_runner_read.f, jn, cut?, h]
  · simp [at?, wrap_small, trace_runner_block.g, trace_runner_block.l0, trace_runner_pay.f, trace_runner_value.g, trace_runner_read.f, jn, cut?, h, he]
theorem rk_run {k a b n e : Int} (h1 : 1 ≤ k) (h2 : k ≤ 14) (h : word_Do.f k a b = some (n, e)) : trace_Run.f [rkF k] 2 [a, b] 9 = some (⟨if e = 0 then [n] else [], e, 0, 0, 0⟩, 0) := by
  obtain ⟨hp, hr⟩ := rk_prog h1 h2
  have hb := rk_block h (trace_runner_call.fix 99998).1 (trace_runner_call.fix 99998).2.1 (trace_runner_call.fix 99997).1 (trace_runner_call.fix 99997).2.1 (trace_runner_call.fix 99997).2.2
  have hc := callf_eq
  generalize trace_runner_block.g (trace_runner_call.fix 99998).1 (trace_runner_call.fix 99998).2.1 (trace_runner_value.g (trace_runner_call.fix 99997).1 (trace_runner_call.fix 99997).2.1 (trace_runner_call.fix 99997).2.2) = BB at hb hc
  generalize (trace_runner_call.fix 99999).1 = X1 at hc
  generalize (trace_runner_call.fix 99999).2.2 = X2 at hc
  have hl : trace_runner_call.l0 BB [rkF k] 2 0 (rkF k) 100000 [0, 0, 0, 0] 0 [a, b] 9 1 [] 0 0 0 [0, 0] 1 = some (if e = 0 then (n, 0, [0, 0], 1, [], 4, 0, [n], 0, 0, 0) else (0, e, [0, 0], 1, [], 6, 0, [], 0, 0, 0)) := by
    rw [trace_runner_call.l0]
    have ha : at? (rkF k).f1 0 = some (⟨[(⟨8, 1, 0, 0, 0, []⟩ : S37), (⟨8, 2, 0, 0, 0, []⟩ : S37), (⟨2, 3, 1, 2, k, []⟩ : S37), (⟨9, 0, 3, 0, 0, []⟩ : S37)], (⟨3, 3, 0, 0⟩ : S40)⟩ : S42) := rfl
    rw [ha, Option.bind_some, hb, Option.bind_some]
    by_cases he : e = 0
    · simp [he, at?, wrap_small]
    · simp [he, wrap_small]
  unfold trace_Run.f
  rw [hc]
  simp only [jn, hp, Option.bind_some]
  have ha : at? [rkF k] 0 = some (rkF k) := rfl
  have hrep : List.replicate (2 : Int).toNat (0 : Int) = [0, 0] := rfl
  have hcpy : cpyL (List.replicate (IntKind.i64.wrap (3 + 1)).toNat (0 : Int)) 1 ((List.replicate (IntKind.i64.wrap (3 + 1)).toNat (0 : Int)).length : Int) [] = [0, 0, 0, 0] := by decide +kernel
  have hw : IntKind.i64.wrap (3 + 1) = 4 := by decide +kernel
  have hw1 : IntKind.i64.wrap (0 + 1) = 1 := by decide +kernel
  rw [if_neg (by omega)]
  simp only [show ¬ ((1048576 : Int) < 2) by omega, decide_false, Bool.false_eq_true, if_false]
  rw [if_pos (by omega)]
  simp only [Bool.not_true, Bool.false_eq_true, if_false, ha, Option.bind_some, hrep]
  unfold trace_runner_call.g
  rw [if_neg (by omega), hr, Option.bind_some, if_pos (by rw [hw]; omega), if_pos (by rw [hw]; decide), hcpy, Option.bind_some, hw1, hl]
  by_cases he : e = 0
  · simp [he]
  · simp [he]
theorem flag_f (b : Bool) : ∃ n, word_flag.f b = some n := by unfold word_flag.f; split <;> exact ⟨_, rfl⟩
theorem cmp_f (a b : Int) : ∃ n, cmp_Compare_int.f a b = some n := by
  unfold cmp_Compare_int.f
  simp only [cmp_isNaN_int.f, jn, Option.bind_some]
  repeat' (first | exact ⟨_, rfl⟩ | split)
theorem ordered_f (k a b : Int) : ∃ n, word_ordered_int.f k a b = some n := by
  obtain ⟨c, hc⟩ := cmp_f a b
  unfold word_ordered_int.f
  rw [hc, Option.bind_some]
  obtain ⟨n1, e1⟩ := flag_f (decide (c < 0))
  obtain ⟨n2, e2⟩ := flag_f (decide (c ≤ 0))
  obtain ⟨n3, e3⟩ := flag_f (decide (c = 0))
  obtain ⟨n4, e4⟩ := flag_f (!decide (c = 0))
  rw [e1, e2, e3, e4]
  simp only [Option.bind_some]
  repeat' (first | exact ⟨_, rfl⟩ | split)
theorem plain_f (k a b : Int) : ∃ n, word_plain.f k a b = some n := by
  obtain ⟨c, hc⟩ := ordered_f k a b
  unfold word_plain.f
  rw [hc]
  simp only [Option.bind_some]
  repeat' (first | exact ⟨_, rfl⟩ | split)
theorem moved_f (k a b : Int) : ∃ n, word_moved.f k a b = some n := by
  have h : ¬ IntKind.u64.wrap (if 64 < b then 64 else b) < 0 := by
    have : IntKind.u64.wrap (if 64 < b then 64 else b) = (if 64 < b then 64 else b) % 18446744073709551616 := rfl
    rw [this]; omega
  unfold word_moved.f
  rw [if_pos h, if_pos h]
  split <;> exact ⟨_, rfl⟩
theorem divided_f (k a b : Int) (h : ¬ b = 0) : ∃ n, word_divided.f k a b = some n := by
  unfold word_divided.f
  rw [if_pos h, if_pos h]
  split <;> exact ⟨_, rfl⟩
theorem do_f (k a b : Int) : ∃ n e, word_Do.f k a b = some (n, e) := by
  obtain ⟨c1, h1⟩ := plain_f k a b
  obtain ⟨c2, h2⟩ := moved_f k a b
  have hk : ∃ w, word_Known.f k = some w := by unfold word_Known.f; split <;> exact ⟨_, rfl⟩
  obtain ⟨w, hw⟩ := hk
  unfold word_Do.f
  simp only [jn, h1, h2, hw, Option.bind_some]
  by_cases hb : b = 0
  · simp only [hb, if_true]; repeat' (first | exact ⟨_, _, rfl⟩ | split)
  · obtain ⟨c3, h3⟩ := divided_f k a b hb
    simp only [h3, Option.bind_some]
    repeat' (first | exact ⟨_, _, rfl⟩ | split)
theorem ints1 (n : Int) : swageref02_Ints.f [n] [n] = some true := by
  simp [swageref02_Ints.f, swageref02_Ints.l0, at?, wrap_small]
theorem traceReckons_law (a0 a1 a2 : Int) (h0 : (Lit.int .i64 a0).wf = true) (h1 : (Lit.int .i64 a1).wf = true) (h2 : (Lit.int .i64 a2).wf = true) : swagelaw15_TraceReckons.f a0 a1 a2 = some true := by
  unfold swagelaw15_TraceReckons.f
  rw [small15, Option.bind_some]
  have hk : word_Known.f a0 = some (decide (1 ≤ a0 ∧ a0 ≤ 14)) := by
    unfold word_Known.f
    by_cases h : 1 ≤ a0 <;> simp [h]
  rw [hk, Option.bind_some]
  by_cases hh : 1 ≤ a0 ∧ a0 ≤ 14
  · rw [decide_eq_true hh, if_neg (by simp)]
    obtain ⟨n, e, hd⟩ := do_f a0 a1 a2
    have hr := rk_run hh.1 hh.2 hd
    rw [hr, Option.bind_some, hd, Option.bind_some]
    by_cases he : e = 0
    · subst he
      simp [jn, ints1]
    · simp [jn, he]
  · rw [decide_eq_false hh, if_pos (by simp)]
end Go.Proofs.Ytfmocegnpmomnaa.Sy
set_option linter.unusedVariables false
set_option linter.unusedSimpArgs false
namespace Go.Proofs.Ytfmocegnpmomnaa.Sy
open Go Go.RowKit Go.Proofs.YtfmocegnpmomnaaW.PrintWords Go.Proofs.Ytfmocegnpmomnaa.SyO
theorem uses_mem {o : S37} (h : Ro o) (hl : o.f5.length ≤ 20) : ∃ u, code_Uses.f o = some u ∧ (∀ a ∈ u, Rg a) ∧ u.length ≤ 30 ∧ ((o.f0 = 2 ∨ o.f0 = 3 ∨ o.f0 = 4 ∨ o.f0 = 5 ∨ o.f0 = 9) → o.f2 ∈ u) ∧ ((o.f0 = 2 ∨ o.f0 = 5) → o.f3 ∈ u) ∧ (o.f0 = 7 → ∀ a ∈ o.f5, a ∈ u) := by
  unfold code_Uses.f
  rw [shape_f]
  unfold Ro at h
  have hl2 : o.f5.length ≤ 17592186044416 := by omega
  rcases h with h | h | h | h | h | h | h | h | h
  · exact ⟨[], by simp [jn, h.1], by simp, by simp, by simp [h.1], by simp [h.1], by simp [h.1]⟩
  · exact ⟨[o.f2, o.f3], by simp [jn, h.1], by intro a ha; simp at ha; rcases ha with rfl | rfl; exact h.2.2.1; exact h.2.2.2.1, by simp, by simp, by simp, by simp [h.1]⟩
  · exact ⟨[o.f2], by simp [jn, h.1], by intro a ha; simp at ha; subst ha; exact h.2.2.1, by simp, by simp, by simp [h.1], by simp [h.1]⟩
  · exact ⟨[o.f2], by simp [jn, h.1], by intro a ha; simp at ha; subst ha; exact h.2.2.1, by simp, by simp, by simp [h.1], by simp [h.1]⟩
  · exact ⟨[o.f2, o.f3], by simp [jn, h.1], by intro a ha; simp at ha; rcases ha with rfl | rfl; exact h.2.2.1; exact h.2.2.2.1, by simp, by simp, by simp, by simp [h.1]⟩
  · exact ⟨[], by simp [jn, h.1], by simp, by simp, by simp [h.1], by simp [h.1], by simp [h.1]⟩
  · exact ⟨o.f5, by simp [jn, h.1, hl2], h.2.2.2.2, by omega, by simp [h.1], by simp [h.1], fun _ a ha => ha⟩
  · exact ⟨[], by simp [jn, h.1], by simp, by simp, by simp [h.1], by simp [h.1], by simp [h.1]⟩
  · exact ⟨[o.f2], by simp [jn, h.1], by intro a ha; simp at ha; subst ha; exact h.2.2.1, by simp, by simp, by simp [h.1], by simp [h.1]⟩
theorem sets_eq {o : S37} (h : Ro o) : ∃ s, code_Sets.f o = some s ∧ 0 ≤ s ∧ s ≤ 4096 ∧ o.f1 ≤ s := by
  unfold code_Sets.f
  rw [shape_f]
  unfold Ro at h
  rcases h with h | h | h | h | h | h | h | h | h
  · exact ⟨o.f1, by simp [h.1], by have := h.2.1.1; omega, h.2.1.2, by omega⟩
  · exact ⟨o.f1, by simp [h.1], by have := h.2.1.1; omega, h.2.1.2, by omega⟩
  · exact ⟨o.f1, by simp [h.1], by have := h.2.1.1; omega, h.2.1.2, by omega⟩
  · exact ⟨o.f1, by simp [h.1], by have := h.2.1.1; omega, h.2.1.2, by omega⟩
  · exact ⟨0, by simp [h.1], by omega, by omega, by omega⟩
  · exact ⟨o.f1, by simp [h.1], by have := h.2.1.1; omega, h.2.1.2, by omega⟩
  · exact ⟨o.f1, by simp [h.1], by have := h.2.1.1; omega, h.2.1.2, by omega⟩
  · exact ⟨o.f1, by simp [h.1], by have := h.2.1.1; omega, h.2.1.2, by omega⟩
  · exact ⟨0, by simp [h.1], by omega, by omega, by omega⟩
theorem tuses_mem {t : S40} {n : Nat} (h : Rt t n) : ∃ u, code_TermUses.f t = some u ∧ (∀ a ∈ u, Rg a) ∧ u.length ≤ 30 ∧ ((t.f0 = 2 ∨ t.f0 = 3) → t.f1 ∈ u) := by
  unfold code_TermUses.f
  unfold Rt at h
  rcases h with h | h | h | h
  · exact ⟨[], by simp [jn, h.1], by simp, by simp, by simp [h.1]⟩
  · exact ⟨[t.f1], by simp [jn, h.1], by intro a ha; simp at ha; subst ha; exact h.2.2.2.2.2, by simp, by simp⟩
  · exact ⟨[t.f1], by simp [jn, h.1], by intro a ha; simp at ha; subst ha; exact h.2.1, by simp, by simp⟩
  · exact ⟨[], by simp [jn, h.1], by simp, by simp, by simp [h.1]⟩
/-- An operation beside so many registers; a block's end. -/
structure Oz (z : Int) (o : S37) : Prop where
  ro : Ro o
  args : o.f5.length ≤ 20
  dst : o.f1 ≤ z
  a : (o.f0 = 2 ∨ o.f0 = 3 ∨ o.f0 = 4 ∨ o.f0 = 5 ∨ o.f0 = 9) → o.f2 ≤ z
  b : (o.f0 = 2 ∨ o.f0 = 5) → o.f3 ≤ z
  c : o.f0 = 7 → ∀ a ∈ o.f5, a ≤ z
theorem regs_m4 {u : List Int} (hl : u.length ≤ 1000) (hu : ∀ a ∈ u, Rg a) (x : Int) (h0 : 0 ≤ x) (h1 : x ≤ 4096) : ∃ z, code_Regs.l4 u (u.length + 1) 0 x = some z ∧ x ≤ z ∧ z ≤ 4096 ∧ ∀ a ∈ u, a ≤ z := by
  have := loopd (xs := u) (F := fun n i w => code_Regs.l4 u n i w) (P := fun ys f => ∀ w : Int, 0 ≤ w → w ≤ 4096 → ∃ z, f w = some z ∧ w ≤ z ∧ z ≤ 4096 ∧ ∀ a ∈ ys, a ≤ z) (by omega) (fun n w h0 h1 => ⟨w, by simp [code_Regs.l4], by omega, h1, by simp⟩) (fun n i y r hd hlt hat hm hw ih w h0 h1 => by
    have hy := hu y hm
    obtain ⟨z, z1, z2, z3, z4⟩ := ih (if w < y then y else w) (by split <;> omega) (by have := hy.2; split <;> omega)
    refine ⟨z, ?_, by split at z2 <;> omega, z3, fun a ha => ?_⟩
    · show code_Regs.l4 u (n + 1) i w = _
      rw [code_Regs.l4, if_pos hlt, hat, Option.bind_some, hw]; exact z1
    · rcases List.mem_cons.1 ha with rfl | ha
      · split at z2 <;> omega
      · exact z4 a ha) (u.length + 1) (by omega)
  exact this x h0 h1
theorem regs_m2 {u : List Int} (hl : u.length ≤ 1000) (hu : ∀ a ∈ u, Rg a) (x : Int) (h0 : 0 ≤ x) (h1 : x ≤ 4096) : ∃ z, code_Regs.l2 u (u.length + 1) 0 x = some z ∧ x ≤ z ∧ z ≤ 4096 ∧ ∀ a ∈ u, a ≤ z := by
  have := loopd (xs := u) (F := fun n i w => code_Regs.l2 u n i w) (P := fun ys f => ∀ w : Int, 0 ≤ w → w ≤ 4096 → ∃ z, f w = some z ∧ w ≤ z ∧ z ≤ 4096 ∧ ∀ a ∈ ys, a ≤ z) (by omega) (fun n w h0 h1 => ⟨w, by simp [code_Regs.l2], by omega, h1, by simp⟩) (fun n i y r hd hlt hat hm hw ih w h0 h1 => by
    have hy := hu y hm
    obtain ⟨z, z1, z2, z3, z4⟩ := ih (if w < y then y else w) (by split <;> omega) (by have := hy.2; split <;> omega)
    refine ⟨z, ?_, by split at z2 <;> omega, z3, fun a ha => ?_⟩
    · show code_Regs.l2 u (n + 1) i w = _
      rw [code_Regs.l2, if_pos hlt, hat, Option.bind_some, hw]; exact z1
    · rcases List.mem_cons.1 ha with rfl | ha
      · split at z2 <;> omega
      · exact z4 a ha) (u.length + 1) (by omega)
  exact this x h0 h1
theorem Oz.mono {z z' : Int} {o : S37} (h : Oz z o) (hz : z ≤ z') : Oz z' o := ⟨h.ro, h.args, Int.le_trans h.dst hz, fun q => Int.le_trans (h.a q) hz, fun q => Int.le_trans (h.b q) hz, fun q a ha => Int.le_trans (h.c q a ha) hz⟩
theorem regs_m3 {y : S42} (hl : y.f0.length ≤ 250) (ho : ∀ o ∈ y.f0, Ro o ∧ o.f5.length ≤ 20) (x : Int) (h0 : 0 ≤ x) (h1 : x ≤ 4096) : ∃ z, code_Regs.l3 y (y.f0.length + 1) 0 x = some z ∧ x ≤ z ∧ z ≤ 4096 ∧ ∀ o ∈ y.f0, Oz z o := by
  have := loopd (xs := y.f0) (F := fun n i w => code_Regs.l3 y n i w) (P := fun os f => ∀ w : Int, 0 ≤ w → w ≤ 4096 → ∃ z, f w = some z ∧ w ≤ z ∧ z ≤ 4096 ∧ ∀ o ∈ os, Oz z o) (by omega) (fun n w h0 h1 => ⟨w, by simp [code_Regs.l3], by omega, h1, by simp⟩) (fun n i o r hd hlt hat hm hw ih w h0 h1 => by
    obtain ⟨hro, hla⟩ := ho o hm
    obtain ⟨u, u1, u2, u3, u4, u5, u6⟩ := uses_mem hro hla
    obtain ⟨s, s1, s2, s3, s4⟩ := sets_eq hro
    obtain ⟨v, v1, v2, v3, v4⟩ := regs_m4 (u := u) (by omega) u2 (if w < s then s else w) (by split <;> omega) (by split <;> omega)
    obtain ⟨z, z1, z2, z3, z4⟩ := ih v (by split at v2 <;> omega) v3
    refine ⟨z, ?_, by split at v2 <;> omega, z3, fun q hq => ?_⟩
    · show code_Regs.l3 y (n + 1) i w = _
      rw [code_Regs.l3, if_pos hlt, hat, Option.bind_some, s1, Option.bind_some, u1, Option.bind_some, v1, Option.bind_some, hw]; exact z1
    · rcases List.mem_cons.1 hq with rfl | hq
      · exact ⟨hro, hla, by split at v2 <;> omega, fun k => Int.le_trans (v4 _ (u4 k)) z2, fun k => Int.le_trans (v4 _ (u5 k)) z2, fun k a ha => Int.le_trans (v4 _ (u6 k a ha)) z2⟩
      · exact z4 q hq) (y.f0.length + 1) (by omega)
  exact this x h0 h1
/-- A function beside its registers. -/
structure Fz (z : Nat) (t : S45) : Prop where
  few : Fewp t
  rf : Rf t
  regs : code_Regs.f t = some (z : Int)
  par : t.f0 ≤ z
  le : z ≤ 4096
  op : ∀ y ∈ t.f1, ∀ o ∈ y.f0, Oz z o
  term : ∀ y ∈ t.f1, Rt y.f1 t.f1.length ∧ ((y.f1.f0 = 2 ∨ y.f1.f0 = 3) → y.f1.f1 ≤ z)
theorem regs_full {t : S45} (hf : Fewp t) (hr : Rf t) : ∃ z : Nat, Fz z t := by
  have hf' := hf
  obtain ⟨f1, f2, f3⟩ := hf'
  have hp0 := hr.p0
  have hp1 := hr.p1
  have hx : (if 0 < t.f0 then t.f0 else 0) = t.f0 := by split <;> omega
  have h0 := loopd (xs := t.f1) (F := fun n i w => code_Regs.l0 t n i w) (P := fun os f => ∀ w : Int, 0 ≤ w → w ≤ 4096 → ∃ z, f w = some z ∧ w ≤ z ∧ z ≤ 4096 ∧ ∀ y ∈ os, ∀ o ∈ y.f0, Oz z o) (by omega) (fun n w h0 h1 => ⟨w, by simp [code_Regs.l0], by omega, h1, by simp⟩) (fun n i y r hd hlt hat hm hw ih w h0 h1 => by
    obtain ⟨v, v1, v2, v3, v4⟩ := regs_m3 (f3 y hm).1 (fun o ho => ⟨hr.op y hm o ho, (f3 y hm).2 o ho⟩) w h0 h1
    obtain ⟨z, z1, z2, z3, z4⟩ := ih v (by omega) v3
    refine ⟨z, ?_, by omega, z3, fun q hq => ?_⟩
    · show code_Regs.l0 t (n + 1) i w = _
      rw [code_Regs.l0, if_pos hlt, hat, Option.bind_some, v1, Option.bind_some, hw]; exact z1
    · rcases List.mem_cons.1 hq with rfl | hq
      · exact fun o ho => (v4 o ho).mono z2
      · exact z4 q hq) (t.f1.length + 1) (by omega) t.f0 hp0 (by omega)
  obtain ⟨w, w1, w2, w3, w4⟩ := h0
  have h1 := loopd (xs := t.f1) (F := fun n i w => code_Regs.l1 t n i w) (P := fun os f => ∀ w : Int, 0 ≤ w → w ≤ 4096 → ∃ z, f w = some z ∧ w ≤ z ∧ z ≤ 4096 ∧ ∀ y ∈ os, (y.f1.f0 = 2 ∨ y.f1.f0 = 3) → y.f1.f1 ≤ z) (by omega) (fun n w h0 h1 => ⟨w, by simp [code_Regs.l1], by omega, h1, by simp⟩) (fun n i y r hd hlt hat hm hw ih w h0 h1 => by
    obtain ⟨u, u1, u2, u3, u4⟩ := tuses_mem (hr.term y hm)
    obtain ⟨v, v1, v2, v3, v4⟩ := regs_m2 (u := u) (by omega) u2 w h0 h1
    obtain ⟨z, z1, z2, z3, z4⟩ := ih v (by omega) v3
    refine ⟨z, ?_, by omega, z3, fun q hq => ?_⟩
    · show code_Regs.l1 t (n + 1) i w = _
      rw [code_Regs.l1, if_pos hlt, hat, Option.bind_some, u1, Option.bind_some, v1, Option.bind_some, hw]; exact z1
    · rcases List.mem_cons.1 hq with rfl | hq
      · exact fun k => Int.le_trans (v4 _ (u4 k)) z2
      · exact z4 q hq) (t.f1.length + 1) (by omega) w (by omega) w3
  obtain ⟨z, z1, z2, z3, z4⟩ := h1
  have hz0 : 0 ≤ z := by omega
  have e : ((z.toNat : Nat) : Int) = z := by omega
  refine ⟨z.toNat, hf, hr, ?_, by omega, by omega, fun y hy o ho => ?_, fun y hy => ⟨hr.term y hy, fun k => by rw [e]; exact z4 y hy k⟩⟩
  · unfold code_Regs.f
    have w1' : code_Regs.l0 t (t.f1.length + 1) 0 t.f0 = some w := w1
    have z1' : code_Regs.l1 t (t.f1.length + 1) 0 w = some z := z1
    rw [hx, w1', Option.bind_some, z1', Option.bind_some, e]
  · rw [e]; exact (w4 y hy o ho).mono z2
end Go.Proofs.Ytfmocegnpmomnaa.Sy
set_option linter.unusedVariables false
set_option linter.unusedSimpArgs false
set_option maxRecDepth 100000
set_option maxHeartbeats 4000000
namespace Go.Proofs.Ytfmocegnpmomnaa.Sy
open Go Go.RowKit Go.Proofs.YtfmocegnpmomnaaW.PrintWords 
def swageref14_Sets.f (a0 : S37) : Option Int := jn (γ := Int) (fun (x12 : Bool) => (if x12 = true then some 0 else some a0.f1)) (fun (j13 : (Bool → Option Int)) => (if a0.f0 < 1 then j13 true else (if 8 < a0.f0 then j13 true else j13 (decide (a0.f0 = 5)))))
def swageref14_Sets.post (G : Gd)  (r : Int) (v : Value) (G' : Gd) (Lr : List Ch) : Prop := G = G' ∧ v = .int .i64 r ∧ Lr = []
theorem swageref14_Sets.calls {G : Gd} {r : Int} {a0 : S37} {A1 : Option Addr} {c2 : Nat} (hr3 : Rd G (Kd.int .i64) A1 a0.f5) (hl4 : a0.f5.length ≤ c2) (h : swageref14_Sets.f a0 = some r) : Fn Try.prog 50 G [] [.agg #[.int .i64 a0.f0, .int .i64 a0.f1, .int .i64 a0.f2, .int .i64 a0.f3, .int .i64 a0.f4, .slice A1 a0.f5.length c2]] (swageref14_Sets.post G  r) := by
 refine Fn.intro (e := [(0, .agg #[.int .i64 a0.f0, .int .i64 a0.f1, .int .i64 a0.f2, .int .i64 a0.f3, .int .i64 a0.f4, .slice A1 a0.f5.length c2])]) 18 Try.func50 rfl Try.ntmps50 rfl rfl (Nat.le_of_ble_eq_true rfl) (fun L => ?_)
 unfold swageref14_Sets.f at h
 refine TC.seq ?_
 refine TC.region ?_
 refine TL.cons (TL.box (cs := [.int .i64 a0.f0, .int .i64 a0.f1, .int .i64 a0.f2, .int .i64 a0.f3, .int .i64 a0.f4, .slice A1 a0.f5.length c2]) rfl rfl rfl rfl (fun b5 => ?_))
 refine TL.cons (TO.val rfl rfl rfl (Val.assign rfl) ?_)
 refine TL.nil ?_
 refine TQ.then_ ?_
 refine TC.seq ?_
 refine TC.seq ?_
 obtain ⟨j13, hj13, h⟩ := jn_no h
 refine TC.tail (fun a W => ∃ (x12 : Bool), j13 x12 = some r ∧ Fr 18 a [(1, .pointer (some ⟨b5, 0, none⟩)), (15, .bool x12)] ∧ Own G (Blk b5 [.int .i64 a0.f0, .int .i64 a0.f1, .int .i64 a0.f2, .int .i64 a0.f3, .int .i64 a0.f4, .slice A1 a0.f5.length c2] 37 :: L) W) ?_ ?_
 ·
  rintro a W ⟨x12, h, hF, hO⟩
  rw [hj13] at h
  refine TQ.use ?_ hF hO
  clear hF hO
  refine TQ.then_ ?_
  refine TC.cond_b rfl h (fun hc15 h => ?_) (fun hc15 h => ?_)
  ·
   refine TC.seq ?_
   refine TC.region ?_
   refine TL.cons (TO.val rfl rfl rfl (Val.assign rfl) ?_)
   refine TL.nil ?_
   refine TQ.then_ ?_
   refine TC.ret ?_
   refine TQ.thenR ?_
   obtain rfl := Option.some.inj h
   exact TQ.fin (.inl rfl) rfl Try.results50 (.tmp rfl .nil) rfl (FRel.mk (Ls := []) [] 1 (Gd.le.refl _) rfl rfl rfl ⟨rfl, rfl, rfl⟩)
  ·
   refine TC.skip ?_
   refine TQ.then_ ?_
   refine TC.seq ?_
   refine TC.region ?_
   refine TL.cons (TO.val rfl rfl rfl (Val.fieldAddrB Try.underlying37 rfl fsz3 rfl rfl rfl) ?_)
   refine TL.cons (TO.val rfl rfl rfl (Val.loadB 0 agg3 rfl rfl rfl) ?_)
   refine TL.cons (TO.val rfl rfl rfl (Val.assign rfl) ?_)
   refine TL.nil ?_
   refine TQ.then_ ?_
   refine TC.ret ?_
   obtain rfl := Option.some.inj h
   exact TQ.fin (.inl rfl) rfl Try.results50 (.tmp rfl .nil) rfl (FRel.mk (Ls := []) [] 1 (Gd.le.refl _) rfl rfl rfl ⟨rfl, rfl, rfl⟩)
 ·
  refine TC.region ?_
  refine TL.cons (TO.val rfl rfl rfl (Val.fieldAddrB Try.underlying37 rfl fsz3 rfl rfl rfl) ?_)
  refine TL.cons (TO.val rfl rfl rfl (Val.loadB 0 agg3 rfl rfl rfl) ?_)
  refine TL.cons (TO.val rfl rfl rfl (Val.cmp rfl rfl run_lss) ?_)
  refine TL.cons (TO.val rfl rfl rfl (Val.move rfl) ?_)
  refine TK.split (p := a0.f0 < 1) h (fun hg16 h => ?_) (fun hg16 h => ?_)
  ·
   have hk17 : decide (a0.f0 < 1) = true := decide_eq_true hg16
   refine TL.cons (TL.not (Wt.no rfl rfl rfl hk17) rfl ?_)
   refine TL.cons (TL.not (Wt.no rfl rfl rfl hk17) rfl ?_)
   refine TL.cons (TL.not (Wt.no rfl rfl rfl hk17) rfl ?_)
   refine TL.cons (TO.val rfl rfl rfl (Val.pickY rfl hk17 rfl) ?_)
   refine TL.cons (TO.val rfl rfl rfl (Val.move rfl) ?_)
   refine TL.cons (TL.not (Wt.no rfl rfl rfl rfl) rfl ?_)
   refine TL.cons (TL.not (Wt.no rfl rfl rfl rfl) rfl ?_)
   refine TL.cons (TL.not (Wt.no rfl rfl rfl rfl) rfl ?_)
   refine TL.cons (TO.val rfl rfl rfl (Val.pickY rfl rfl rfl) ?_)
   refine TL.nil ?_
   exact fun a W hF hO => ⟨true, h, hF.sub ⟨rfl, rfl, trivial⟩, hO.selT (Ls := [Blk b5 [.int .i64 a0.f0, .int .i64 a0.f1, .int .i64 a0.f2, .int .i64 a0.f3, .int .i64 a0.f4, .slice A1 a0.f5.length c2] 37]) [0] 1 rfl rfl rfl⟩
  ·
   have hk18 : decide (a0.f0 < 1) = false := decide_eq_false hg16
   refine TL.cons (TO.val (Wt.yes rfl rfl rfl hk18) rfl rfl (Val.fieldAddrB Try.underlying37 rfl fsz3 rfl rfl rfl) ?_)
   refine TL.cons (TO.val (Wt.yes rfl rfl rfl hk18) rfl rfl (Val.loadB 0 agg3 rfl rfl rfl) ?_)
   refine TL.cons (TO.val (Wt.yes rfl rfl rfl hk18) rfl rfl (Val.cmp rfl rfl run_gtr) ?_)
   refine TL.cons (TO.val rfl rfl rfl (Val.pickN rfl hk18 rfl) ?_)
   refine TL.cons (TO.val rfl rfl rfl (Val.move rfl) ?_)
   refine TK.split (p := 8 < a0.f0) h (fun hg19 h => ?_) (fun hg19 h => ?_)
   ·
    have hk20 : decide (8 < a0.f0) = true := decide_eq_true hg19
    refine TL.cons (TL.not (Wt.no rfl rfl rfl hk20) rfl ?_)
    refine TL.cons (TL.not (Wt.no rfl rfl rfl hk20) rfl ?_)
    refine TL.cons (TL.not (Wt.no rfl rfl rfl hk20) rfl ?_)
    refine TL.cons (TO.val rfl rfl rfl (Val.pickY rfl hk20 rfl) ?_)
    refine TL.nil ?_
    exact fun a W hF hO => ⟨true, h, hF.sub ⟨rfl, rfl, trivial⟩, hO.selT (Ls := [Blk b5 [.int .i64 a0.f0, .int .i64 a0.f1, .int .i64 a0.f2, .int .i64 a0.f3, .int .i64 a0.f4, .slice A1 a0.f5.length c2] 37]) [0] 1 rfl rfl rfl⟩
   ·
    have hk21 : decide (8 < a0.f0) = false := decide_eq_false hg19
    refine TL.cons (TO.val (Wt.yes rfl rfl rfl hk21) rfl rfl (Val.fieldAddrB Try.underlying37 rfl fsz3 rfl rfl rfl) ?_)
    refine TL.cons (TO.val (Wt.yes rfl rfl rfl hk21) rfl rfl (Val.loadB 0 agg3 rfl rfl rfl) ?_)
    refine TL.cons (TO.val (Wt.yes rfl rfl rfl hk21) rfl rfl (Val.cmp rfl rfl run_eql) ?_)
    refine TL.cons (TO.val rfl rfl rfl (Val.pickN rfl hk21 rfl) ?_)
    refine TL.nil ?_
    exact fun a W hF hO => ⟨decide (a0.f0 = 5), h, hF.sub ⟨rfl, rfl, trivial⟩, hO.selT (Ls := [Blk b5 [.int .i64 a0.f0, .int .i64 a0.f1, .int .i64 a0.f2, .int .i64 a0.f3, .int .i64 a0.f4, .slice A1 a0.f5.length c2] 37]) [0] 1 rfl rfl rfl⟩
end Go.Proofs.Ytfmocegnpmomnaa.Sy
set_option linter.unusedVariables false
set_option linter.unusedSimpArgs false
set_option maxRecDepth 100000
set_option maxHeartbeats 4000000
namespace Go.Proofs.Ytfmocegnpmomnaa.Sy
open Go Go.RowKit Go.Proofs.YtfmocegnpmomnaaW.PrintWords 
def swageref14_Uses.f (a0 : S37) : Option (List Int) := jn (γ := (List Int)) (fun (x59 : Bool) => (if x59 = true then some ([a0.f2, a0.f3] : List Int) else jn (γ := (List Int)) (fun (x83 : Bool) => (if x83 = true then some ([a0.f2] : List Int) else (if a0.f0 = 7 then (if ([] : List Int).length + a0.f5.length ≤ 17592186044416 then some (([] : List Int) ++ a0.f5) else none) else some ([] : List Int)))) (fun (j84 : (Bool → Option (List Int))) => (if a0.f0 = 3 then j84 (decide (a0.f0 = 3)) else (if a0.f0 = 4 then j84 (decide (a0.f0 = 4)) else j84 (decide (a0.f0 = 9))))))) (fun (j60 : (Bool → Option (List Int))) => (if a0.f0 = 2 then j60 (decide (a0.f0 = 2)) else j60 (decide (a0.f0 = 5))))
def swageref14_Uses.post (G : Gd)  (r : (List Int)) (v : Value) (G' : Gd) (Lr : List Ch) : Prop := G = G' ∧ ∃ (A_1 : Option Addr) (c_1 : Nat), v = .slice A_1 r.length c_1 ∧ Lr = [Row (Kd.int .i64) 3 (.slice A_1 r.length c_1) r]
theorem swageref14_Uses.calls {G : Gd} {r : (List Int)} {a0 : S37} {A1 : Option Addr} {c2 : Nat} (hr3 : Rd G (Kd.int .i64) A1 a0.f5) (hl4 : a0.f5.length ≤ c2) (h : swageref14_Uses.f a0 = some r) : Fn Try.prog 51 G [] [.agg #[.int .i64 a0.f0, .int .i64 a0.f1, .int .i64 a0.f2, .int .i64 a0.f3, .int .i64 a0.f4, .slice A1 a0.f5.length c2]] (swageref14_Uses.post G  r) := by
 refine Fn.intro (e := [(0, .agg #[.int .i64 a0.f0, .int .i64 a0.f1, .int .i64 a0.f2, .int .i64 a0.f3, .int .i64 a0.f4, .slice A1 a0.f5.length c2])]) 26 Try.func51 rfl Try.ntmps51 rfl rfl (Nat.le_of_ble_eq_true rfl) (fun L => ?_)
 unfold swageref14_Uses.f at h
 refine TC.seq ?_
 refine TC.region ?_
 refine TL.cons (TL.box (cs := [.int .i64 a0.f0, .int .i64 a0.f1, .int .i64 a0.f2, .int .i64 a0.f3, .int .i64 a0.f4, .slice A1 a0.f5.length c2]) rfl rfl rfl rfl (fun b5 => ?_))
 refine TL.cons (TO.val rfl rfl rfl (Val.assign rfl) ?_)
 refine TL.nil ?_
 refine TQ.then_ ?_
 refine TC.seq ?_
 refine TC.seq ?_
 refine TC.region ?_
 refine TL.cons (TO.val rfl rfl rfl (Val.fieldAddrB Try.underlying37 rfl fsz3 rfl rfl rfl) ?_)
 refine TL.cons (TO.val rfl rfl rfl (Val.loadB 0 agg3 rfl rfl rfl) ?_)
 refine TL.nil ?_
 refine TQ.then_ ?_
 refine TC.block ?_
 refine TC.seq ?_
 refine TC.seq ?_
 refine TC.region ?_
 refine TL.cons (TO.val rfl rfl rfl (Val.cmp rfl rfl run_eql) ?_)
 refine TL.cons (TO.val rfl rfl rfl (Val.assign rfl) ?_)
 refine TL.nil ?_
 refine TQ.then_ ?_
 obtain ⟨j60, hj60, h⟩ := jn_no h
 refine TC.tail (fun a W => ∃ (x59 : Bool), j60 x59 = some r ∧ Fr 26 a [(1, .pointer (some ⟨b5, 0, none⟩)), (4, .int .i64 a0.f0), (5, .bool x59)] ∧ Own G (Blk b5 [.int .i64 a0.f0, .int .i64 a0.f1, .int .i64 a0.f2, .int .i64 a0.f3, .int .i64 a0.f4, .slice A1 a0.f5.length c2] 37 :: L) W) ?_ ?_
 ·
  rintro a W ⟨x59, h, hF, hO⟩
  rw [hj60] at h
  refine TQ.use ?_ hF hO
  clear hF hO
  refine TQ.then_ ?_
  refine TC.cond_b rfl h (fun hc78 h => ?_) (fun hc78 h => ?_)
  ·
   refine TC.seq ?_
   refine TC.region ?_
   refine TL.cons (TO.val rfl rfl rfl (Val.fieldAddrB Try.underlying37 rfl fsz3 rfl rfl rfl) ?_)
   refine TL.cons (TO.val rfl rfl rfl (Val.loadB 0 agg3 rfl rfl rfl) ?_)
   refine TL.cons (TO.val rfl rfl rfl (Val.fieldAddrB Try.underlying37 rfl fsz3 rfl rfl rfl) ?_)
   refine TL.cons (TO.val rfl rfl rfl (Val.loadB 0 agg3 rfl rfl rfl) ?_)
   refine TL.cons (TL.buildSlice (xs := [.tmp 9, .tmp 11]) (vs := [.int .i64 a0.f2, .int .i64 a0.f3]) (cs := [.int .i64 a0.f2, .int .i64 a0.f3]) rfl rfl Try.underlying23 zs3 rfl rfl rfl rfl rfl rfl rfl rfl (fun b79 => ?_))
   refine TL.cons (TO.val rfl rfl rfl (Val.assign rfl) ?_)
   refine TL.nil ?_
   refine TQ.then_ ?_
   refine TC.ret ?_
   refine TQ.inBR ?_
   refine TQ.thenR ?_
   refine TQ.new (Els.nil (Kd.int .i64)) ?_
   refine TQ.new (El.of (k := (Kd.int .i64)) (xv := a0.f2) (cs := [.int .i64 a0.f2]) (fun W B => rfl)) ?_
   refine TQ.sel (Ls := [Els (Kd.int .i64) [] [], El (Kd.int .i64) a0.f2 [.int .i64 a0.f2], Blk b79 [.int .i64 a0.f2, .int .i64 a0.f3] 3, Blk b5 [.int .i64 a0.f0, .int .i64 a0.f1, .int .i64 a0.f2, .int .i64 a0.f3, .int .i64 a0.f4, .slice A1 a0.f5.length c2] 37]) [1, 0, 2, 3] 4 rfl rfl rfl ?_
   refine TQ.two (ch := Els (Kd.int .i64) [a0.f2] [.int .i64 a0.f2]) (Els.snoc (Kd.int .i64)) ?_
   refine TQ.new (El.of (k := (Kd.int .i64)) (xv := a0.f3) (cs := [.int .i64 a0.f3]) (fun W B => rfl)) ?_
   refine TQ.sel (Ls := [Els (Kd.int .i64) [a0.f2] [.int .i64 a0.f2], El (Kd.int .i64) a0.f3 [.int .i64 a0.f3], Blk b79 [.int .i64 a0.f2, .int .i64 a0.f3] 3, Blk b5 [.int .i64 a0.f0, .int .i64 a0.f1, .int .i64 a0.f2, .int .i64 a0.f3, .int .i64 a0.f4, .slice A1 a0.f5.length c2] 37]) [1, 0, 2, 3] 4 rfl rfl rfl ?_
   refine TQ.two (ch := Els (Kd.int .i64) [a0.f2, a0.f3] [.int .i64 a0.f2, .int .i64 a0.f3]) (Els.snoc (Kd.int .i64)) ?_
   refine TQ.sel (Ls := [Blk b79 [.int .i64 a0.f2, .int .i64 a0.f3] 3, Els (Kd.int .i64) [a0.f2, a0.f3] [.int .i64 a0.f2, .int .i64 a0.f3], Blk b5 [.int .i64 a0.f0, .int .i64 a0.f1, .int .i64 a0.f2, .int .i64 a0.f3, .int .i64 a0.f4, .slice A1 a0.f5.length c2] 37]) [1, 0, 2] 3 rfl rfl rfl ?_
   refine TQ.two (ch := Row (Kd.int .i64) 3 (.slice (some ⟨b79, 0, none⟩) 2 2) ([a0.f2, a0.f3] : List Int)) (Row.lit (Kd.int .i64) rfl rfl) ?_
   obtain rfl := Option.some.inj h
   exact TQ.fin (.inl rfl) rfl Try.results51 (.tmp rfl .nil) rfl (FRel.mk (Ls := [Row (Kd.int .i64) 3 (.slice (some ⟨b79, 0, none⟩) 2 2) ([a0.f2, a0.f3] : List Int)]) [0] 2 (Gd.le.refl _) rfl rfl rfl ⟨rfl, (some ⟨b79, 0, none⟩), 2, rfl, rfl⟩)
  ·
   refine TC.seq ?_
   refine TC.seq ?_
   refine TC.region ?_
   refine TL.cons (TO.val rfl rfl rfl (Val.cmp rfl rfl run_eql) ?_)
   refine TL.cons (TO.val rfl rfl rfl (Val.assign rfl) ?_)
   refine TL.nil ?_
   refine TQ.then_ ?_
   obtain ⟨j84, hj84, h⟩ := jn_no h
   refine TC.tail (fun a W => ∃ (x83 : Bool), j84 x83 = some r ∧ Fr 26 a [(1, .pointer (some ⟨b5, 0, none⟩)), (4, .int .i64 a0.f0), (13, .bool x83)] ∧ Own G (Blk b5 [.int .i64 a0.f0, .int .i64 a0.f1, .int .i64 a0.f2, .int .i64 a0.f3, .int .i64 a0.f4, .slice A1 a0.f5.length c2] 37 :: L) W) ?_ ?_
   ·
    rintro a W ⟨x83, h, hF, hO⟩
    rw [hj84] at h
    refine TQ.use ?_ hF hO
    clear hF hO
    refine TQ.then_ ?_
    refine TC.cond_b rfl h (fun hc93 h => ?_) (fun hc93 h => ?_)
    ·
     refine TC.seq ?_
     refine TC.region ?_
     refine TL.cons (TO.val rfl rfl rfl (Val.fieldAddrB Try.underlying37 rfl fsz3 rfl rfl rfl) ?_)
     refine TL.cons (TO.val rfl rfl rfl (Val.loadB 0 agg3 rfl rfl rfl) ?_)
     refine TL.cons (TL.buildSlice (xs := [.tmp 18]) (vs := [.int .i64 a0.f2]) (cs := [.int .i64 a0.f2]) rfl rfl Try.underlying23 zs3 rfl rfl rfl rfl rfl rfl rfl rfl (fun b94 => ?_))
     refine TL.cons (TO.val rfl rfl rfl (Val.assign rfl) ?_)
     refine TL.nil ?_
     refine TQ.then_ ?_
     refine TC.ret ?_
     refine TQ.inBR ?_
     refine TQ.thenR ?_
     refine TQ.new (Els.nil (Kd.int .i64)) ?_
     refine TQ.new (El.of (k := (Kd.int .i64)) (xv := a0.f2) (cs := [.int .i64 a0.f2]) (fun W B => rfl)) ?_
     refine TQ.sel (Ls := [Els (Kd.int .i64) [] [], El (Kd.int .i64) a0.f2 [.int .i64 a0.f2], Blk b94 [.int .i64 a0.f2] 3, Blk b5 [.int .i64 a0.f0, .int .i64 a0.f1, .int .i64 a0.f2, .int .i64 a0.f3, .int .i64 a0.f4, .slice A1 a0.f5.length c2] 37]) [1, 0, 2, 3] 4 rfl rfl rfl ?_
     refine TQ.two (ch := Els (Kd.int .i64) [a0.f2] [.int .i64 a0.f2]) (Els.snoc (Kd.int .i64)) ?_
     refine TQ.sel (Ls := [Blk b94 [.int .i64 a0.f2] 3, Els (Kd.int .i64) [a0.f2] [.int .i64 a0.f2], Blk b5 [.int .i64 a0.f0, .int .i64 a0.f1, .int .i64 a0.f2, .int .i64 a0.f3, .int .i64 a0.f4, .slice A1 a0.f5.length c2] 37]) [1, 0, 2] 3 rfl rfl rfl ?_
     refine TQ.two (ch := Row (Kd.int .i64) 3 (.slice (some ⟨b94, 0, none⟩) 1 1) ([a0.f2] : List Int)) (Row.lit (Kd.int .i64) rfl rfl) ?_
     obtain rfl := Option.some.inj h
     exact TQ.fin (.inl rfl) rfl Try.results51 (.tmp rfl .nil) rfl (FRel.mk (Ls := [Row (Kd.int .i64) 3 (.slice (some ⟨b94, 0, none⟩) 1 1) ([a0.f2] : List Int)]) [0] 2 (Gd.le.refl _) rfl rfl rfl ⟨rfl, (some ⟨b94, 0, none⟩), 1, rfl, rfl⟩)
    ·
     refine TC.seq ?_
     refine TC.region ?_
     refine TL.cons (TO.val rfl rfl rfl (Val.cmp rfl rfl run_eql) ?_)
     refine TL.cons (TO.val rfl rfl rfl (Val.assign rfl) ?_)
     refine TL.nil ?_
     refine TQ.then_ ?_
     refine TC.cond_p rfl h (fun hc102 h => ?_) (fun hc102 h => ?_)
     ·
      refine TC.seq ?_
      refine TC.region ?_
      refine TL.cons (TL.buildSlice0 (Kd.int .i64) rfl rfl Try.underlying23 zs3 (fun b103 => ?_))
      refine TL.cons (TO.val rfl rfl rfl (Val.fieldAddrB Try.underlying37 rfl fsz23 rfl rfl rfl) ?_)
      refine TL.cons (TO.val rfl rfl rfl (Val.loadB 1 agg23 rfl rfl rfl) ?_)
      obtain ⟨ha105, h⟩ := ite_no h
      refine TL.cons (TL.appendR (xs := ([] : List Int)) (ys := a0.f5) (Kd.int .i64) (Kd.int .i64) rfl rfl Try.underlying23 inf3 rfl (Nat.le_of_ble_eq_true rfl) (Nat.le_of_ble_eq_true rfl) rfl rfl (by omega) hr3 rfl (fun _ _ _ _ _ h => h) (fun A106 c107 => ?_))
      refine TL.cons (TO.val rfl rfl rfl (Val.assign rfl) ?_)
      refine TL.nil ?_
      refine TQ.then_ ?_
      refine TC.ret ?_
      refine TQ.inBR ?_
      refine TQ.thenR ?_
      obtain rfl := Option.some.inj h
      exact TQ.fin (.inl rfl) rfl Try.results51 (.tmp rfl .nil) rfl (FRel.mk (Ls := [Row (Kd.int .i64) 3 (.slice A106 (([] : List Int) ++ a0.f5).length c107) (([] : List Int) ++ a0.f5)]) [0] 2 (Gd.le.refl _) rfl rfl rfl ⟨rfl, A106, c107, rfl, rfl⟩)
     ·
      refine TC.skip ?_
      refine TQ.inB ?_
      refine TQ.then_ ?_
      refine TC.seq ?_
      refine TC.region ?_
      refine TL.cons (TO.val rfl rfl rfl (Val.assign rfl) ?_)
      refine TL.nil ?_
      refine TQ.then_ ?_
      refine TC.ret ?_
      refine TQ.nilRow (Kd.int .i64) 3 ?_
      obtain rfl := Option.some.inj h
      exact TQ.fin (.inl rfl) rfl Try.results51 (.tmp rfl .nil) rfl (FRel.mk (Ls := [Row (Kd.int .i64) 3 (.slice none 0 0) ([] : List Int)]) [0] 2 (Gd.le.refl _) rfl rfl rfl ⟨rfl, none, 0, rfl, rfl⟩)
   ·
    refine TC.cond_p rfl h (fun hc109 h => ?_) (fun hc109 h => ?_)
    ·
     refine TC.skip ?_
     exact fun a W hF hO => ⟨decide (a0.f0 = 3), h, hF.sub ⟨rfl, rfl, rfl, trivial⟩, hO.selT (Ls := [Blk b5 [.int .i64 a0.f0, .int .i64 a0.f1, .int .i64 a0.f2, .int .i64 a0.f3, .int .i64 a0.f4, .slice A1 a0.f5.length c2] 37]) [0] 1 rfl rfl rfl⟩
    ·
     refine TC.seq ?_
     refine TC.region ?_
     refine TL.cons (TO.val rfl rfl rfl (Val.cmp rfl rfl run_eql) ?_)
     refine TL.cons (TO.val rfl rfl rfl (Val.assign rfl) ?_)
     refine TL.nil ?_
     refine TQ.then_ ?_
     refine TC.cond_p rfl h (fun hc111 h => ?_) (fun hc111 h => ?_)
     ·
      refine TC.skip ?_
      exact fun a W hF hO => ⟨decide (a0.f0 = 4), h, hF.sub ⟨rfl, rfl, rfl, trivial⟩, hO.selT (Ls := [Blk b5 [.int .i64 a0.f0, .int .i64 a0.f1, .int .i64 a0.f2, .int .i64 a0.f3, .int .i64 a0.f4, .slice A1 a0.f5.length c2] 37]) [0] 1 rfl rfl rfl⟩
     ·
      refine TC.region ?_
      refine TL.cons (TO.val rfl rfl rfl (Val.cmp rfl rfl run_eql) ?_)
      refine TL.cons (TO.val rfl rfl rfl (Val.assign rfl) ?_)
      refine TL.nil ?_
      exact fun a W hF hO => ⟨decide (a0.f0 = 9), h, hF.sub ⟨rfl, rfl, rfl, trivial⟩, hO.selT (Ls := [Blk b5 [.int .i64 a0.f0, .int .i64 a0.f1, .int .i64 a0.f2, .int .i64 a0.f3, .int .i64 a0.f4, .slice A1 a0.f5.length c2] 37]) [0] 1 rfl rfl rfl⟩
 ·
  refine TC.cond_p rfl h (fun hc112 h => ?_) (fun hc112 h => ?_)
  ·
   refine TC.skip ?_
   exact fun a W hF hO => ⟨decide (a0.f0 = 2), h, hF.sub ⟨rfl, rfl, rfl, trivial⟩, hO.selT (Ls := [Blk b5 [.int .i64 a0.f0, .int .i64 a0.f1, .int .i64 a0.f2, .int .i64 a0.f3, .int .i64 a0.f4, .slice A1 a0.f5.length c2] 37]) [0] 1 rfl rfl rfl⟩
  ·
   refine TC.region ?_
   refine TL.cons (TO.val rfl rfl rfl (Val.cmp rfl rfl run_eql) ?_)
   refine TL.cons (TO.val rfl rfl rfl (Val.assign rfl) ?_)
   refine TL.nil ?_
   exact fun a W hF hO => ⟨decide (a0.f0 = 5), h, hF.sub ⟨rfl, rfl, rfl, trivial⟩, hO.selT (Ls := [Blk b5 [.int .i64 a0.f0, .int .i64 a0.f1, .int .i64 a0.f2, .int .i64 a0.f3, .int .i64 a0.f4, .slice A1 a0.f5.length c2] 37]) [0] 1 rfl rfl rfl⟩
end Go.Proofs.Ytfmocegnpmomnaa.Sy
set_option linter.unusedVariables false
set_option linter.unusedSimpArgs false
set_option maxRecDepth 100000
set_option maxHeartbeats 4000000
namespace Go.Proofs.Ytfmocegnpmomnaa.Sy
open Go Go.RowKit Go.Proofs.YtfmocegnpmomnaaW.PrintWords 
def swageref14_TermUses.f (a0 : S40) : Option (List Int) := jn (γ := (List Int)) (fun (x5 : Bool) => (if x5 = true then some ([a0.f1] : List Int) else some ([] : List Int))) (fun (j6 : (Bool → Option (List Int))) => (if a0.f0 = 2 then j6 true else j6 (decide (a0.f0 = 3))))
def swageref14_TermUses.post (G : Gd)  (r : (List Int)) (v : Value) (G' : Gd) (Lr : List Ch) : Prop := G = G' ∧ ∃ (A_1 : Option Addr) (c_1 : Nat), v = .slice A_1 r.length c_1 ∧ Lr = [Row (Kd.int .i64) 3 (.slice A_1 r.length c_1) r]
theorem swageref14_TermUses.calls {G : Gd} {r : (List Int)} {a0 : S40} (h : swageref14_TermUses.f a0 = some r) : Fn Try.prog 52 G [] [.agg #[.int .i64 a0.f0, .int .i64 a0.f1, .int .i64 a0.f2, .int .i64 a0.f3]] (swageref14_TermUses.post G  r) := by
 refine Fn.intro (e := [(0, .agg #[.int .i64 a0.f0, .int .i64 a0.f1, .int .i64 a0.f2, .int .i64 a0.f3])]) 14 Try.func52 rfl Try.ntmps52 rfl rfl (Nat.le_of_ble_eq_true rfl) (fun L => ?_)
 unfold swageref14_TermUses.f at h
 refine TC.seq ?_
 refine TC.region ?_
 refine TL.cons (TL.box (cs := [.int .i64 a0.f0, .int .i64 a0.f1, .int .i64 a0.f2, .int .i64 a0.f3]) rfl rfl rfl rfl (fun b1 => ?_))
 refine TL.cons (TO.val rfl rfl rfl (Val.assign rfl) ?_)
 refine TL.nil ?_
 refine TQ.then_ ?_
 refine TC.seq ?_
 refine TC.seq ?_
 obtain ⟨j6, hj6, h⟩ := jn_no h
 refine TC.tail (fun a W => ∃ (x5 : Bool), j6 x5 = some r ∧ Fr 14 a [(1, .pointer (some ⟨b1, 0, none⟩)), (10, .bool x5)] ∧ Own G (Blk b1 [.int .i64 a0.f0, .int .i64 a0.f1, .int .i64 a0.f2, .int .i64 a0.f3] 40 :: L) W) ?_ ?_
 ·
  rintro a W ⟨x5, h, hF, hO⟩
  rw [hj6] at h
  refine TQ.use ?_ hF hO
  clear hF hO
  refine TQ.then_ ?_
  refine TC.cond_b rfl h (fun hc9 h => ?_) (fun hc9 h => ?_)
  ·
   refine TC.seq ?_
   refine TC.region ?_
   refine TL.cons (TO.val rfl rfl rfl (Val.fieldAddrB Try.underlying40 rfl fsz3 rfl rfl rfl) ?_)
   refine TL.cons (TO.val rfl rfl rfl (Val.loadB 0 agg3 rfl rfl rfl) ?_)
   refine TL.cons (TL.buildSlice (xs := [.tmp 12]) (vs := [.int .i64 a0.f1]) (cs := [.int .i64 a0.f1]) rfl rfl Try.underlying23 zs3 rfl rfl rfl rfl rfl rfl rfl rfl (fun b10 => ?_))
   refine TL.cons (TO.val rfl rfl rfl (Val.assign rfl) ?_)
   refine TL.nil ?_
   refine TQ.then_ ?_
   refine TC.ret ?_
   refine TQ.thenR ?_
   refine TQ.new (Els.nil (Kd.int .i64)) ?_
   refine TQ.new (El.of (k := (Kd.int .i64)) (xv := a0.f1) (cs := [.int .i64 a0.f1]) (fun W B => rfl)) ?_
   refine TQ.sel (Ls := [Els (Kd.int .i64) [] [], El (Kd.int .i64) a0.f1 [.int .i64 a0.f1], Blk b10 [.int .i64 a0.f1] 3, Blk b1 [.int .i64 a0.f0, .int .i64 a0.f1, .int .i64 a0.f2, .int .i64 a0.f3] 40]) [1, 0, 2, 3] 4 rfl rfl rfl ?_
   refine TQ.two (ch := Els (Kd.int .i64) [a0.f1] [.int .i64 a0.f1]) (Els.snoc (Kd.int .i64)) ?_
   refine TQ.sel (Ls := [Blk b10 [.int .i64 a0.f1] 3, Els (Kd.int .i64) [a0.f1] [.int .i64 a0.f1], Blk b1 [.int .i64 a0.f0, .int .i64 a0.f1, .int .i64 a0.f2, .int .i64 a0.f3] 40]) [1, 0, 2] 3 rfl rfl rfl ?_
   refine TQ.two (ch := Row (Kd.int .i64) 3 (.slice (some ⟨b10, 0, none⟩) 1 1) ([a0.f1] : List Int)) (Row.lit (Kd.int .i64) rfl rfl) ?_
   obtain rfl := Option.some.inj h
   exact TQ.fin (.inl rfl) rfl Try.results52 (.tmp rfl .nil) rfl (FRel.mk (Ls := [Row (Kd.int .i64) 3 (.slice (some ⟨b10, 0, none⟩) 1 1) ([a0.f1] : List Int)]) [0] 2 (Gd.le.refl _) rfl rfl rfl ⟨rfl, (some ⟨b10, 0, none⟩), 1, rfl, rfl⟩)
  ·
   refine TC.skip ?_
   refine TQ.then_ ?_
   refine TC.seq ?_
   refine TC.region ?_
   refine TL.cons (TO.val rfl rfl rfl (Val.assign rfl) ?_)
   refine TL.nil ?_
   refine TQ.then_ ?_
   refine TC.ret ?_
   refine TQ.nilRow (Kd.int .i64) 3 ?_
   obtain rfl := Option.some.inj h
   exact TQ.fin (.inl rfl) rfl Try.results52 (.tmp rfl .nil) rfl (FRel.mk (Ls := [Row (Kd.int .i64) 3 (.slice none 0 0) ([] : List Int)]) [0] 2 (Gd.le.refl _) rfl rfl rfl ⟨rfl, none, 0, rfl, rfl⟩)
 ·
  refine TC.region ?_
  refine TL.cons (TO.val rfl rfl rfl (Val.fieldAddrB Try.underlying40 rfl fsz3 rfl rfl rfl) ?_)
  refine TL.cons (TO.val rfl rfl rfl (Val.loadB 0 agg3 rfl rfl rfl) ?_)
  refine TL.cons (TO.val rfl rfl rfl (Val.cmp rfl rfl run_eql) ?_)
  refine TL.cons (TO.val rfl rfl rfl (Val.move rfl) ?_)
  refine TK.split (p := a0.f0 = 2) h (fun hg13 h => ?_) (fun hg13 h => ?_)
  ·
   have hk14 : decide (a0.f0 = 2) = true := decide_eq_true hg13
   refine TL.cons (TL.not (Wt.no rfl rfl rfl hk14) rfl ?_)
   refine TL.cons (TL.not (Wt.no rfl rfl rfl hk14) rfl ?_)
   refine TL.cons (TL.not (Wt.no rfl rfl rfl hk14) rfl ?_)
   refine TL.cons (TO.val rfl rfl rfl (Val.pickY rfl hk14 rfl) ?_)
   refine TL.nil ?_
   exact fun a W hF hO => ⟨true, h, hF.sub ⟨rfl, rfl, trivial⟩, hO.selT (Ls := [Blk b1 [.int .i64 a0.f0, .int .i64 a0.f1, .int .i64 a0.f2, .int .i64 a0.f3] 40]) [0] 1 rfl rfl rfl⟩
  ·
   have hk15 : decide (a0.f0 = 2) = false := decide_eq_false hg13
   refine TL.cons (TO.val (Wt.yes rfl rfl rfl hk15) rfl rfl (Val.fieldAddrB Try.underlying40 rfl fsz3 rfl rfl rfl) ?_)
   refine TL.cons (TO.val (Wt.yes rfl rfl rfl hk15) rfl rfl (Val.loadB 0 agg3 rfl rfl rfl) ?_)
   refine TL.cons (TO.val (Wt.yes rfl rfl rfl hk15) rfl rfl (Val.cmp rfl rfl run_eql) ?_)
   refine TL.cons (TO.val rfl rfl rfl (Val.pickN rfl hk15 rfl) ?_)
   refine TL.nil ?_
   exact fun a W hF hO => ⟨decide (a0.f0 = 3), h, hF.sub ⟨rfl, rfl, trivial⟩, hO.selT (Ls := [Blk b1 [.int .i64 a0.f0, .int .i64 a0.f1, .int .i64 a0.f2, .int .i64 a0.f3] 40]) [0] 1 rfl rfl rfl⟩
end Go.Proofs.Ytfmocegnpmomnaa.Sy
set_option linter.unusedVariables false
set_option linter.unusedSimpArgs false
set_option maxRecDepth 100000
set_option maxHeartbeats 4000000
namespace Go.Proofs.Ytfmocegnpmomnaa.Sy
open Go Go.RowKit Go.Proofs.YtfmocegnpmomnaaW.PrintWords 
def swageref14_Regs.l2 (y5258 : (List Int)) : Nat → Int → Int → Option (Int)
 | 0, _, _ => none
 | n5365 + 1, x5329, x5330 => (if x5330 < (y5258.length : Int) then (at? y5258 x5330).bind fun y5421 => swageref14_Regs.l2 y5258 n5365 (if x5329 < y5421 then y5421 else x5329) (IntKind.i64.wrap (x5330 + 1)) else some x5329)
def swageref14_Regs.l3 (y5581 : (List Int)) : Nat → Int → Int → Option (Int)
 | 0, _, _ => none
 | n5688 + 1, x5652, x5653 => (if x5653 < (y5581.length : Int) then (at? y5581 x5653).bind fun y5744 => swageref14_Regs.l3 y5581 n5688 (if x5652 < y5744 then y5744 else x5652) (IntKind.i64.wrap (x5653 + 1)) else some x5652)
def swageref14_Regs.l1 (a0 : S45) (x1901 : Int) : Nat → Int → Int → Option (Int)
 | 0, _, _ => none
 | n5037 + 1, x4824, x4825 => (at? a0.f1 x1901).bind fun y5430 => (if x4825 < (y5430.f0.length : Int) then (at? y5430.f0 x4825).bind fun y5566 => (swageref14_Sets.f y5566).bind fun (y5579 : Int) => (swageref14_Uses.f y5566).bind fun (y5581 : (List Int)) => (swageref14_Regs.l3 y5581 (y5581.length + 1) (if x4824 < y5579 then y5579 else x4824) 0).bind fun (x5686 : Int) => swageref14_Regs.l1 a0 x1901 n5037 x5686 (IntKind.i64.wrap (x4825 + 1)) else some x4824)
def swageref14_Regs.l0 (a0 : S45) : Nat → Int → Int → Option (Int)
 | 0, _, _ => none
 | n2850 + 1, x1900, x1901 => (if x1901 < (a0.f1.length : Int) then (swageref14_Regs.l1 a0 x1901 ((at? a0.f1 x1901).elim 0 (fun vy5038 => vy5038.f0.length) + 1) x1900 0).bind fun (x5035 : Int) => (at? a0.f1 x1901).bind fun y5245 => (swageref14_TermUses.f y5245.f1).bind fun (y5258 : (List Int)) => (swageref14_Regs.l2 y5258 (y5258.length + 1) x5035 0).bind fun (x5363 : Int) => swageref14_Regs.l0 a0 n2850 x5363 (IntKind.i64.wrap (x1901 + 1)) else some x1900)
def swageref14_Regs.f (a0 : S45) : Option Int := (swageref14_Regs.l0 a0 (a0.f1.length + 1) (if a0.f0 < 0 then 0 else a0.f0) 0).bind fun (x2848 : Int) => some x2848
def swageref14_Regs.post (G : Gd)  (r : Int) (v : Value) (G' : Gd) (Lr : List Ch) : Prop := G = G' ∧ v = .int .i64 r ∧ Lr = []
theorem swageref14_Regs.calls {G : Gd} {r : Int} {a0 : S45} {A1 : Option Addr} {c2 : Nat} (hr3 : Rd G k42 A1 a0.f1) (hl4 : a0.f1.length ≤ c2) (h : swageref14_Regs.f a0 = some r) : Fn Try.prog 25 G [] [.agg #[.int .i64 a0.f0, .slice A1 a0.f1.length c2]] (swageref14_Regs.post G  r) := by
 refine Fn.intro (e := [(0, .agg #[.int .i64 a0.f0, .slice A1 a0.f1.length c2])]) 85 Try.func25 rfl Try.ntmps25 rfl rfl (Nat.le_of_ble_eq_true rfl) (fun L => ?_)
 unfold swageref14_Regs.f at h
 refine TC.seq ?_
 refine TC.region ?_
 refine TL.cons (TL.box (cs := [.int .i64 a0.f0, .slice A1 a0.f1.length c2]) rfl rfl rfl rfl (fun b5 => ?_))
 refine TL.cons (TO.val rfl rfl rfl (Val.assign rfl) ?_)
 refine TL.nil ?_
 refine TQ.then_ ?_
 refine TC.seq ?_
 refine TC.region ?_
 refine TL.cons (TO.val rfl rfl rfl (Val.fieldAddrB Try.underlying45 rfl fsz3 rfl rfl rfl) ?_)
 refine TL.cons (TO.val rfl rfl rfl (Val.loadB 0 agg3 rfl rfl rfl) ?_)
 refine TL.cons (TO.val rfl rfl rfl (Val.max2 rfl rfl) ?_)
 refine TL.cons (TO.val rfl rfl rfl (Val.assign rfl) ?_)
 refine TL.nil ?_
 refine TQ.then_ ?_
 refine TC.seq ?_
 refine TC.seq ?_
 refine TC.region ?_
 refine TL.cons (TO.val rfl rfl rfl (Val.assign rfl) ?_)
 refine TL.nil ?_
 refine TQ.then_ ?_
 obtain ⟨o2849, ho2849, ko2849⟩ := bind_no h
 clear h
 refine TC.tail (fun a W => ∃ (x2848 : Int), x2848 = o2849 ∧ Fr 85 a [(3, .int .i64 x2848)] ∧ Own G (L) W) ?_ ?_
 ·
  rintro a W ⟨x2848, rfl, hF, hO⟩
  have h := ko2849
  clear ko2849 ho2849
  refine TQ.use ?_ hF hO
  clear hF hO
  refine TQ.then_ ?_
  refine TC.seq ?_
  refine TC.region ?_
  refine TL.cons (TO.val rfl rfl rfl (Val.move rfl) ?_)
  refine TL.cons (TO.val rfl rfl rfl (Val.assign rfl) ?_)
  refine TL.nil ?_
  refine TQ.then_ ?_
  refine TC.ret ?_
  obtain rfl := Option.some.inj h
  exact TQ.fin (.inl rfl) rfl Try.results25 (.tmp rfl .nil) rfl (FRel.mk (Ls := []) [] 0 (Gd.le.refl _) rfl rfl rfl ⟨rfl, rfl, rfl⟩)
 ·
  refine TC.block ?_
  intro a W hF hO
  have hS : ∃ (x1900 : Int) (x1901 : Int), swageref14_Regs.l0 a0 (a0.f1.length + 1) x1900 x1901 = some o2849 ∧ Fr 85 a [(1, .pointer (some ⟨b5, 0, none⟩)), (3, .int .i64 x1900), (4, .int .i64 x1901)] ∧ Own G (Blk b5 [.int .i64 a0.f0, .slice A1 a0.f1.length c2] 45 :: L) W := by
   exact ⟨(if a0.f0 < 0 then 0 else a0.f0), 0, ho2849, hF.sub ⟨rfl, rfl, rfl, trivial⟩, hO.selT (Ls := [Blk b5 [.int .i64 a0.f0, .slice A1 a0.f1.length c2] 45]) [0] 1 rfl rfl rfl⟩
  clear hF hO ho2849 ko2849
  refine TC.loop (fun n2850 a W => ∃ (x1900 : Int) (x1901 : Int), swageref14_Regs.l0 a0 n2850 x1900 x1901 = some o2849 ∧ Fr 85 a [(1, .pointer (some ⟨b5, 0, none⟩)), (3, .int .i64 x1900), (4, .int .i64 x1901)] ∧ Own G (Blk b5 [.int .i64 a0.f0, .slice A1 a0.f1.length c2] 45 :: L) W) ?_ ?_ hS
  ·
   rintro a W ⟨x1900, x1901, h, hF, hO⟩
   exact none_no h
  ·
   clear hS
   rintro n2850 a W ⟨x1900, x1901, h, hF, hO⟩
   rw [swageref14_Regs.l0] at h
   refine TC.use ?_ hF hO
   clear hF hO
   refine TC.seq ?_
   refine TC.seq ?_
   refine TC.region ?_
   refine TL.cons (TO.val rfl rfl rfl (Val.move rfl) ?_)
   refine TL.cons (TO.val rfl rfl rfl (Val.fieldAddrB Try.underlying45 rfl fsz43 rfl rfl rfl) ?_)
   refine TL.cons (TO.val rfl rfl rfl (Val.loadB 0 agg43 rfl rfl rfl) ?_)
   refine TL.cons (TO.val rfl rfl rfl (Val.len Try.underlying43 rfl) ?_)
   refine TL.cons (TO.val rfl rfl rfl (Val.cmp rfl rfl run_lss) ?_)
   refine TL.nil ?_
   refine TQ.then_ ?_
   refine TC.cond_p rfl h (fun hc3796 h => ?_) (fun hc3796 h => ?_)
   ·
    refine TC.skip ?_
    refine TQ.then_ ?_
    refine TC.seq ?_
    refine TC.block ?_
    refine TC.seq ?_
    refine TC.seq ?_
    refine TC.region ?_
    refine TL.cons (TO.val rfl rfl rfl (Val.assign rfl) ?_)
    refine TL.nil ?_
    refine TQ.then_ ?_
    obtain ⟨o5036, ho5036, ko5036⟩ := bind_no h
    clear h
    refine TC.tail (fun a W => ∃ (x5035 : Int), x5035 = o5036 ∧ Fr 85 a [(1, .pointer (some ⟨b5, 0, none⟩)), (3, .int .i64 x5035), (4, .int .i64 x1901)] ∧ Own G (Blk b5 [.int .i64 a0.f0, .slice A1 a0.f1.length c2] 45 :: L) W) ?_ ?_
    ·
     rintro a W ⟨x5035, rfl, hF, hO⟩
     have h := ko5036
     clear ko5036 ho5036
     refine TQ.use ?_ hF hO
     clear hF hO
     refine TQ.then_ ?_
     refine TC.seq ?_
     refine TC.region ?_
     refine TL.cons (TO.val rfl rfl rfl (Val.fieldAddrB Try.underlying45 rfl fsz43 rfl rfl rfl) ?_)
     refine TL.cons (TO.val rfl rfl rfl (Val.loadB 0 agg43 rfl rfl rfl) ?_)
     refine TL.cons (TO.val rfl rfl rfl (Val.move rfl) ?_)
     obtain ⟨y5245, hx5246, h⟩ := bind_no h
     obtain ⟨ad5247, cs5253, hA5248, hi5249, hj5250, hcl5251, hK5252⟩ := Rd.at hr3 hx5246
     obtain ⟨A5254, c5255, rfl, hr5256, hl5257⟩ := k42_openR hK5252
     refine TL.cons (TO.val rfl rfl rfl (Val.indexAddr Try.underlying43 fsz42 rfl hA5248 rfl hi5249 hj5250) ?_)
     refine TL.cons (TO.val rfl rfl rfl (Val.fieldAddrE Try.underlying42 rfl fsz40 rfl rfl) ?_)
     refine TL.cons (TO.val rfl rfl rfl (Val.loadsS (cs := [.int .i64 y5245.f1.f0, .int .i64 y5245.f1.f1, .int .i64 y5245.f1.f2, .int .i64 y5245.f1.f3]) agg40 fsz40 rfl rfl (Cl.sub (off := 1) (n := 4) hcl5251 rfl)) ?_)
     obtain ⟨y5258, hy5259, h⟩ := bind_no h
     refine TL.cons (TL.callV (Lin := []) (args := [.agg #[.int .i64 y5245.f1.f0, .int .i64 y5245.f1.f1, .int .i64 y5245.f1.f2, .int .i64 y5245.f1.f3]]) rfl rfl rfl hbd52 rfl rfl (swageref14_TermUses.calls (a0 := y5245.f1) hy5259) rfl ?_)
     rintro _ _ _ _ ⟨rfl, A5260, c5261, rfl, rfl⟩
     refine TL.cons (TO.val rfl rfl rfl (Val.assign rfl) ?_)
     refine TL.nil ?_
     refine TQ.then_ ?_
     refine TC.seq ?_
     refine TC.region ?_
     refine TL.cons (TO.val rfl rfl rfl (Val.assign rfl) ?_)
     refine TL.nil ?_
     refine TQ.then_ ?_
     obtain ⟨o5364, ho5364, ko5364⟩ := bind_no h
     clear h
     refine TC.tail (fun a W => ∃ (x5363 : Int), x5363 = o5364 ∧ Fr 85 a [(1, .pointer (some ⟨b5, 0, none⟩)), (3, .int .i64 x5363), (4, .int .i64 x1901)] ∧ Own G (Blk b5 [.int .i64 a0.f0, .slice A1 a0.f1.length c2] 45 :: L) W) ?_ ?_
     ·
      rintro a W ⟨x5363, rfl, hF, hO⟩
      have h := ko5364
      clear ko5364 ho5364
      refine TQ.use ?_ hF hO
      clear hF hO
      refine TQ.inB ?_
      refine TQ.then_ ?_
      refine TC.region ?_
      refine TL.cons (TO.val rfl rfl rfl (Val.move rfl) ?_)
      refine TL.cons (TO.val rfl rfl rfl (Val.cmp rfl rfl run_add) ?_)
      refine TL.cons (TO.val rfl rfl rfl (Val.assign rfl) ?_)
      refine TL.nil ?_
      exact fun a W hF hO => ⟨x5363, IntKind.i64.wrap (x1901 + 1), h, hF.sub ⟨rfl, rfl, rfl, trivial⟩, hO.selT (Ls := [Blk b5 [.int .i64 a0.f0, .slice A1 a0.f1.length c2] 45]) [0] 1 rfl rfl rfl⟩
     ·
      refine TC.block ?_
      intro a W hF hO
      have hS : ∃ (x5329 : Int) (x5330 : Int), swageref14_Regs.l2 y5258 (y5258.length + 1) x5329 x5330 = some o5364 ∧ Fr 85 a [(1, .pointer (some ⟨b5, 0, none⟩)), (3, .int .i64 x5329), (4, .int .i64 x1901), (8, .slice A5260 y5258.length c5261), (9, .int .i64 x5330)] ∧ Own G (Blk b5 [.int .i64 a0.f0, .slice A1 a0.f1.length c2] 45 :: Row (Kd.int .i64) 3 (.slice A5260 y5258.length c5261) y5258 :: L) W := by
       exact ⟨x5035, 0, ho5364, hF.sub ⟨rfl, rfl, rfl, rfl, rfl, trivial⟩, hO.selT (Ls := [Blk b5 [.int .i64 a0.f0, .slice A1 a0.f1.length c2] 45, Row (Kd.int .i64) 3 (.slice A5260 y5258.length c5261) y5258]) [1, 0] 2 rfl rfl rfl⟩
      clear hF hO ho5364 ko5364
      refine TC.loop (fun n5365 a W => ∃ (x5329 : Int) (x5330 : Int), swageref14_Regs.l2 y5258 n5365 x5329 x5330 = some o5364 ∧ Fr 85 a [(1, .pointer (some ⟨b5, 0, none⟩)), (3, .int .i64 x5329), (4, .int .i64 x1901), (8, .slice A5260 y5258.length c5261), (9, .int .i64 x5330)] ∧ Own G (Blk b5 [.int .i64 a0.f0, .slice A1 a0.f1.length c2] 45 :: Row (Kd.int .i64) 3 (.slice A5260 y5258.length c5261) y5258 :: L) W) ?_ ?_ hS
      ·
       rintro a W ⟨x5329, x5330, h, hF, hO⟩
       exact none_no h
      ·
       clear hS
       rintro n5365 a W ⟨x5329, x5330, h, hF, hO⟩
       rw [swageref14_Regs.l2] at h
       refine TC.use ?_ hF hO
       clear hF hO
       refine TC.seq ?_
       refine TC.seq ?_
       refine TC.region ?_
       refine TL.cons (TO.val rfl rfl rfl (Val.move rfl) ?_)
       refine TL.cons (TO.val rfl rfl rfl (Val.move rfl) ?_)
       refine TL.cons (TO.val rfl rfl rfl (Val.len Try.underlying23 rfl) ?_)
       refine TL.cons (TO.val rfl rfl rfl (Val.cmp rfl rfl run_lss) ?_)
       refine TL.nil ?_
       refine TQ.then_ ?_
       refine TC.cond_p rfl h (fun hc5399 h => ?_) (fun hc5399 h => ?_)
       ·
        refine TC.skip ?_
        refine TQ.then_ ?_
        refine TC.seq ?_
        refine TC.block ?_
        refine TC.region ?_
        refine TL.cons (TO.val rfl rfl rfl (Val.move rfl) ?_)
        refine TL.cons (TO.val rfl rfl rfl (Val.move rfl) ?_)
        refine TL.cons (TO.val rfl rfl rfl (Val.move rfl) ?_)
        refine TK.sel (Ls := [Row (Kd.int .i64) 3 (.slice A5260 y5258.length c5261) y5258, Blk b5 [.int .i64 a0.f0, .slice A1 a0.f1.length c2] 45]) [1, 0] 2 rfl rfl rfl ?_
        refine TK.share (fun G5415 e5416 hs5417 hb5418 => ?_)
        have rd5419 : Rd G5415 (Kd.int .i64) A5260 y5258 := Rd.row hs5417
        have le5420 : y5258.length ≤ c5261 := Row.le hs5417
        obtain ⟨y5421, hx5422, h⟩ := bind_no h
        obtain ⟨ad5423, cs5429, hA5424, hi5425, hj5426, hcl5427, hK5428⟩ := Rd.at rd5419 hx5422
        obtain rfl := RdK.int hK5428
        refine TL.cons (TO.val rfl rfl rfl (Val.indexAddr Try.underlying23 fsz3 rfl hA5424 rfl hi5425 hj5426) ?_)
        refine TL.cons (TO.val rfl rfl rfl (Val.loadS agg3 rfl (hcl5427 0 _ rfl)) ?_)
        refine TL.cons (TO.val rfl rfl rfl (Val.max2 rfl rfl) ?_)
        refine TL.cons (TO.val rfl rfl rfl (Val.assign rfl) ?_)
        refine TL.nil ?_
        refine TQ.inB ?_
        refine TQ.then_ ?_
        refine TC.region ?_
        refine TL.cons (TO.val rfl rfl rfl (Val.move rfl) ?_)
        refine TL.cons (TO.val rfl rfl rfl (Val.cmp rfl rfl run_add) ?_)
        refine TL.cons (TO.val rfl rfl rfl (Val.assign rfl) ?_)
        refine TL.nil ?_
        refine TQ.back hb5418 ?_
        exact fun a W hF hO => ⟨(if x5329 < y5421 then y5421 else x5329), IntKind.i64.wrap (x5330 + 1), h, hF.sub ⟨rfl, rfl, rfl, rfl, rfl, trivial⟩, hO.selT (Ls := [Blk b5 [.int .i64 a0.f0, .slice A1 a0.f1.length c2] 45, Row (Kd.int .i64) 3 (.slice A5260 y5258.length c5261) y5258]) [1, 0] 2 rfl rfl rfl⟩
       ·
        refine TC.exit ?_
        refine TQ.thenX ?_
        refine TQ.thenX ?_
        refine TQ.inBX ?_
        exact fun a W hF hO => ⟨x5329, Option.some.inj h, hF.sub ⟨rfl, rfl, rfl, trivial⟩, hO.selT (Ls := [Blk b5 [.int .i64 a0.f0, .slice A1 a0.f1.length c2] 45]) [0] 2 rfl rfl rfl⟩
    ·
     refine TC.block ?_
     intro a W hF hO
     have hS : ∃ (x4824 : Int) (x4825 : Int), swageref14_Regs.l1 a0 x1901 ((at? a0.f1 x1901).elim 0 (fun vy5038 => vy5038.f0.length) + 1) x4824 x4825 = some o5036 ∧ Fr 85 a [(1, .pointer (some ⟨b5, 0, none⟩)), (3, .int .i64 x4824), (4, .int .i64 x1901), (5, .int .i64 x4825)] ∧ Own G (Blk b5 [.int .i64 a0.f0, .slice A1 a0.f1.length c2] 45 :: L) W := by
      exact ⟨x1900, 0, ho5036, hF.sub ⟨rfl, rfl, rfl, rfl, trivial⟩, hO.selT (Ls := [Blk b5 [.int .i64 a0.f0, .slice A1 a0.f1.length c2] 45]) [0] 1 rfl rfl rfl⟩
     clear hF hO ho5036 ko5036
     refine TC.loop (fun n5037 a W => ∃ (x4824 : Int) (x4825 : Int), swageref14_Regs.l1 a0 x1901 n5037 x4824 x4825 = some o5036 ∧ Fr 85 a [(1, .pointer (some ⟨b5, 0, none⟩)), (3, .int .i64 x4824), (4, .int .i64 x1901), (5, .int .i64 x4825)] ∧ Own G (Blk b5 [.int .i64 a0.f0, .slice A1 a0.f1.length c2] 45 :: L) W) ?_ ?_ hS
     ·
      rintro a W ⟨x4824, x4825, h, hF, hO⟩
      exact none_no h
     ·
      clear hS
      rintro n5037 a W ⟨x4824, x4825, h, hF, hO⟩
      rw [swageref14_Regs.l1] at h
      refine TC.use ?_ hF hO
      clear hF hO
      refine TC.seq ?_
      refine TC.seq ?_
      refine TC.region ?_
      refine TL.cons (TO.val rfl rfl rfl (Val.move rfl) ?_)
      refine TL.cons (TO.val rfl rfl rfl (Val.fieldAddrB Try.underlying45 rfl fsz43 rfl rfl rfl) ?_)
      refine TL.cons (TO.val rfl rfl rfl (Val.loadB 0 agg43 rfl rfl rfl) ?_)
      refine TL.cons (TO.val rfl rfl rfl (Val.move rfl) ?_)
      obtain ⟨y5430, hx5431, h⟩ := bind_no h
      obtain ⟨ad5432, cs5438, hA5433, hi5434, hj5435, hcl5436, hK5437⟩ := Rd.at hr3 hx5431
      obtain ⟨A5439, c5440, rfl, hr5441, hl5442⟩ := k42_openR hK5437
      refine TL.cons (TO.val rfl rfl rfl (Val.indexAddr Try.underlying43 fsz42 rfl hA5433 rfl hi5434 hj5435) ?_)
      refine TL.cons (TO.val rfl rfl rfl (Val.fieldAddrE Try.underlying42 rfl fsz38 rfl rfl) ?_)
      refine TL.cons (TO.val rfl rfl rfl (Val.loadS agg38 rfl (hcl5436 0 _ rfl)) ?_)
      refine TL.cons (TO.val rfl rfl rfl (Val.len Try.underlying38 rfl) ?_)
      refine TL.cons (TO.val rfl rfl rfl (Val.cmp rfl rfl run_lss) ?_)
      refine TL.nil ?_
      refine TQ.then_ ?_
      refine TC.cond_p rfl h (fun hc5444 h => ?_) (fun hc5444 h => ?_)
      ·
       refine TC.skip ?_
       refine TQ.then_ ?_
       refine TC.seq ?_
       refine TC.block ?_
       refine TC.seq ?_
       refine TC.region ?_
       refine TL.cons (TO.val rfl rfl rfl (Val.move rfl) ?_)
       refine TL.cons (TO.val rfl rfl rfl (Val.fieldAddrB Try.underlying45 rfl fsz43 rfl rfl rfl) ?_)
       refine TL.cons (TO.val rfl rfl rfl (Val.loadB 0 agg43 rfl rfl rfl) ?_)
       refine TL.cons (TO.val rfl rfl rfl (Val.move rfl) ?_)
       refine TL.cons (TO.val rfl rfl rfl (Val.indexAddr Try.underlying43 fsz42 rfl hA5433 rfl hi5434 hj5435) ?_)
       refine TL.cons (TO.val rfl rfl rfl (Val.fieldAddrE Try.underlying42 rfl fsz38 rfl rfl) ?_)
       refine TL.cons (TO.val rfl rfl rfl (Val.loadS agg38 rfl (hcl5436 0 _ rfl)) ?_)
       refine TL.cons (TO.val rfl rfl rfl (Val.move rfl) ?_)
       obtain ⟨y5566, hx5567, h⟩ := bind_no h
       obtain ⟨ad5568, cs5574, hA5569, hi5570, hj5571, hcl5572, hK5573⟩ := Rd.at hr5441 hx5567
       obtain ⟨A5575, c5576, rfl, hr5577, hl5578⟩ := k37_openR hK5573
       refine TL.cons (TO.val rfl rfl rfl (Val.indexAddr Try.underlying38 fsz37 rfl hA5569 rfl hi5570 hj5571) ?_)
       refine TL.cons (TO.val rfl rfl rfl (Val.loadsS (cs := [.int .i64 y5566.f0, .int .i64 y5566.f1, .int .i64 y5566.f2, .int .i64 y5566.f3, .int .i64 y5566.f4, .slice A5575 y5566.f5.length c5576]) agg37 fsz37 rfl rfl (Cl.sub (off := 0) (n := 6) hcl5572 rfl)) ?_)
       obtain ⟨y5579, hy5580, h⟩ := bind_no h
       refine TL.cons (TL.callV (Lin := []) (args := [.agg #[.int .i64 y5566.f0, .int .i64 y5566.f1, .int .i64 y5566.f2, .int .i64 y5566.f3, .int .i64 y5566.f4, .slice A5575 y5566.f5.length c5576]]) rfl rfl rfl hbd50 rfl rfl (swageref14_Sets.calls (a0 := y5566) hr5577 hl5578 hy5580) rfl ?_)
       rintro _ _ _ _ ⟨rfl, rfl, rfl⟩
       refine TL.cons (TO.val rfl rfl rfl (Val.max2 rfl rfl) ?_)
       refine TL.cons (TO.val rfl rfl rfl (Val.assign rfl) ?_)
       refine TL.nil ?_
       refine TQ.then_ ?_
       refine TC.seq ?_
       refine TC.region ?_
       refine TL.cons (TO.val rfl rfl rfl (Val.fieldAddrB Try.underlying45 rfl fsz43 rfl rfl rfl) ?_)
       refine TL.cons (TO.val rfl rfl rfl (Val.loadB 0 agg43 rfl rfl rfl) ?_)
       refine TL.cons (TO.val rfl rfl rfl (Val.move rfl) ?_)
       refine TL.cons (TO.val rfl rfl rfl (Val.indexAddr Try.underlying43 fsz42 rfl hA5433 rfl hi5434 hj5435) ?_)
       refine TL.cons (TO.val rfl rfl rfl (Val.fieldAddrE Try.underlying42 rfl fsz38 rfl rfl) ?_)
       refine TL.cons (TO.val rfl rfl rfl (Val.loadS agg38 rfl (hcl5436 0 _ rfl)) ?_)
       refine TL.cons (TO.val rfl rfl rfl (Val.move rfl) ?_)
       refine TL.cons (TO.val rfl rfl rfl (Val.indexAddr Try.underlying38 fsz37 rfl hA5569 rfl hi5570 hj5571) ?_)
       refine TL.cons (TO.val rfl rfl rfl (Val.loadsS (cs := [.int .i64 y5566.f0, .int .i64 y5566.f1, .int .i64 y5566.f2, .int .i64 y5566.f3, .int .i64 y5566.f4, .slice A5575 y5566.f5.length c5576]) agg37 fsz37 rfl rfl (Cl.sub (off := 0) (n := 6) hcl5572 rfl)) ?_)
       obtain ⟨y5581, hy5582, h⟩ := bind_no h
       refine TL.cons (TL.callV (Lin := []) (args := [.agg #[.int .i64 y5566.f0, .int .i64 y5566.f1, .int .i64 y5566.f2, .int .i64 y5566.f3, .int .i64 y5566.f4, .slice A5575 y5566.f5.length c5576]]) rfl rfl rfl hbd51 rfl rfl (swageref14_Uses.calls (a0 := y5566) hr5577 hl5578 hy5582) rfl ?_)
       rintro _ _ _ _ ⟨rfl, A5583, c5584, rfl, rfl⟩
       refine TL.cons (TO.val rfl rfl rfl (Val.assign rfl) ?_)
       refine TL.nil ?_
       refine TQ.then_ ?_
       refine TC.seq ?_
       refine TC.region ?_
       refine TL.cons (TO.val rfl rfl rfl (Val.assign rfl) ?_)
       refine TL.nil ?_
       refine TQ.then_ ?_
       obtain ⟨o5687, ho5687, ko5687⟩ := bind_no h
       clear h
       refine TC.tail (fun a W => ∃ (x5686 : Int), x5686 = o5687 ∧ Fr 85 a [(1, .pointer (some ⟨b5, 0, none⟩)), (3, .int .i64 x5686), (4, .int .i64 x1901), (5, .int .i64 x4825)] ∧ Own G (Blk b5 [.int .i64 a0.f0, .slice A1 a0.f1.length c2] 45 :: L) W) ?_ ?_
       ·
        rintro a W ⟨x5686, rfl, hF, hO⟩
        have h := ko5687
        clear ko5687 ho5687
        refine TQ.use ?_ hF hO
        clear hF hO
        refine TQ.inB ?_
        refine TQ.then_ ?_
        refine TC.region ?_
        refine TL.cons (TO.val rfl rfl rfl (Val.move rfl) ?_)
        refine TL.cons (TO.val rfl rfl rfl (Val.cmp rfl rfl run_add) ?_)
        refine TL.cons (TO.val rfl rfl rfl (Val.assign rfl) ?_)
        refine TL.nil ?_
        exact fun a W hF hO => ⟨x5686, IntKind.i64.wrap (x4825 + 1), h, hF.sub ⟨rfl, rfl, rfl, rfl, trivial⟩, hO.selT (Ls := [Blk b5 [.int .i64 a0.f0, .slice A1 a0.f1.length c2] 45]) [0] 1 rfl rfl rfl⟩
       ·
        refine TC.block ?_
        intro a W hF hO
        have hS : ∃ (x5652 : Int) (x5653 : Int), swageref14_Regs.l3 y5581 (y5581.length + 1) x5652 x5653 = some o5687 ∧ Fr 85 a [(1, .pointer (some ⟨b5, 0, none⟩)), (3, .int .i64 x5652), (4, .int .i64 x1901), (5, .int .i64 x4825), (6, .slice A5583 y5581.length c5584), (7, .int .i64 x5653)] ∧ Own G (Blk b5 [.int .i64 a0.f0, .slice A1 a0.f1.length c2] 45 :: Row (Kd.int .i64) 3 (.slice A5583 y5581.length c5584) y5581 :: L) W := by
         exact ⟨(if x4824 < y5579 then y5579 else x4824), 0, ho5687, hF.sub ⟨rfl, rfl, rfl, rfl, rfl, rfl, trivial⟩, hO.selT (Ls := [Blk b5 [.int .i64 a0.f0, .slice A1 a0.f1.length c2] 45, Row (Kd.int .i64) 3 (.slice A5583 y5581.length c5584) y5581]) [1, 0] 2 rfl rfl rfl⟩
        clear hF hO ho5687 ko5687
        refine TC.loop (fun n5688 a W => ∃ (x5652 : Int) (x5653 : Int), swageref14_Regs.l3 y5581 n5688 x5652 x5653 = some o5687 ∧ Fr 85 a [(1, .pointer (some ⟨b5, 0, none⟩)), (3, .int .i64 x5652), (4, .int .i64 x1901), (5, .int .i64 x4825), (6, .slice A5583 y5581.length c5584), (7, .int .i64 x5653)] ∧ Own G (Blk b5 [.int .i64 a0.f0, .slice A1 a0.f1.length c2] 45 :: Row (Kd.int .i64) 3 (.slice A5583 y5581.length c5584) y5581 :: L) W) ?_ ?_ hS
        ·
         rintro a W ⟨x5652, x5653, h, hF, hO⟩
         exact none_no h
        ·
         clear hS
         rintro n5688 a W ⟨x5652, x5653, h, hF, hO⟩
         rw [swageref14_Regs.l3] at h
         refine TC.use ?_ hF hO
         clear hF hO
         refine TC.seq ?_
         refine TC.seq ?_
         refine TC.region ?_
         refine TL.cons (TO.val rfl rfl rfl (Val.move rfl) ?_)
         refine TL.cons (TO.val rfl rfl rfl (Val.move rfl) ?_)
         refine TL.cons (TO.val rfl rfl rfl (Val.len Try.underlying23 rfl) ?_)
         refine TL.cons (TO.val rfl rfl rfl (Val.cmp rfl rfl run_lss) ?_)
         refine TL.nil ?_
         refine TQ.then_ ?_
         refine TC.cond_p rfl h (fun hc5722 h => ?_) (fun hc5722 h => ?_)
         ·
          refine TC.skip ?_
          refine TQ.then_ ?_
          refine TC.seq ?_
          refine TC.block ?_
          refine TC.region ?_
          refine TL.cons (TO.val rfl rfl rfl (Val.move rfl) ?_)
          refine TL.cons (TO.val rfl rfl rfl (Val.move rfl) ?_)
          refine TL.cons (TO.val rfl rfl rfl (Val.move rfl) ?_)
          refine TK.sel (Ls := [Row (Kd.int .i64) 3 (.slice A5583 y5581.length c5584) y5581, Blk b5 [.int .i64 a0.f0, .slice A1 a0.f1.length c2] 45]) [1, 0] 2 rfl rfl rfl ?_
          refine TK.share (fun G5738 e5739 hs5740 hb5741 => ?_)
          have rd5742 : Rd G5738 (Kd.int .i64) A5583 y5581 := Rd.row hs5740
          have le5743 : y5581.length ≤ c5584 := Row.le hs5740
          obtain ⟨y5744, hx5745, h⟩ := bind_no h
          obtain ⟨ad5746, cs5752, hA5747, hi5748, hj5749, hcl5750, hK5751⟩ := Rd.at rd5742 hx5745
          obtain rfl := RdK.int hK5751
          refine TL.cons (TO.val rfl rfl rfl (Val.indexAddr Try.underlying23 fsz3 rfl hA5747 rfl hi5748 hj5749) ?_)
          refine TL.cons (TO.val rfl rfl rfl (Val.loadS agg3 rfl (hcl5750 0 _ rfl)) ?_)
          refine TL.cons (TO.val rfl rfl rfl (Val.max2 rfl rfl) ?_)
          refine TL.cons (TO.val rfl rfl rfl (Val.assign rfl) ?_)
          refine TL.nil ?_
          refine TQ.inB ?_
          refine TQ.then_ ?_
          refine TC.region ?_
          refine TL.cons (TO.val rfl rfl rfl (Val.move rfl) ?_)
          refine TL.cons (TO.val rfl rfl rfl (Val.cmp rfl rfl run_add) ?_)
          refine TL.cons (TO.val rfl rfl rfl (Val.assign rfl) ?_)
          refine TL.nil ?_
          refine TQ.back hb5741 ?_
          exact fun a W hF hO => ⟨(if x5652 < y5744 then y5744 else x5652), IntKind.i64.wrap (x5653 + 1), h, hF.sub ⟨rfl, rfl, rfl, rfl, rfl, rfl, trivial⟩, hO.selT (Ls := [Blk b5 [.int .i64 a0.f0, .slice A1 a0.f1.length c2] 45, Row (Kd.int .i64) 3 (.slice A5583 y5581.length c5584) y5581]) [1, 0] 2 rfl rfl rfl⟩
         ·
          refine TC.exit ?_
          refine TQ.thenX ?_
          refine TQ.thenX ?_
          refine TQ.inBX ?_
          exact fun a W hF hO => ⟨x5652, Option.some.inj h, hF.sub ⟨rfl, rfl, rfl, rfl, trivial⟩, hO.selT (Ls := [Blk b5 [.int .i64 a0.f0, .slice A1 a0.f1.length c2] 45]) [0] 2 rfl rfl rfl⟩
      ·
       refine TC.exit ?_
       refine TQ.thenX ?_
       refine TQ.thenX ?_
       refine TQ.inBX ?_
       exact fun a W hF hO => ⟨x4824, Option.some.inj h, hF.sub ⟨rfl, rfl, rfl, trivial⟩, hO.selT (Ls := [Blk b5 [.int .i64 a0.f0, .slice A1 a0.f1.length c2] 45]) [0] 1 rfl rfl rfl⟩
   ·
    refine TC.exit ?_
    refine TQ.thenX ?_
    refine TQ.thenX ?_
    refine TQ.inBX ?_
    exact fun a W hF hO => ⟨x1900, Option.some.inj h, hF.sub ⟨rfl, trivial⟩, hO.selT (Ls := []) [] 1 rfl rfl rfl⟩
end Go.Proofs.Ytfmocegnpmomnaa.Sy
set_option linter.unusedVariables false
set_option linter.unusedSimpArgs false
set_option maxRecDepth 100000
set_option maxHeartbeats 4000000
namespace Go.Proofs.Ytfmocegnpmomnaa.Sy
open Go Go.RowKit Go.Proofs.YtfmocegnpmomnaaW.PrintWords 
def swagelaw15_Few.l0 (a0 : (List S45)) : Nat → Int → Option (Sum Bool (Unit))
 | 0, _ => none
 | n212 + 1, x142 => jn (γ := (Sum Bool (Unit))) (fun (x284 : Bool) => (if x284 = true then (at? a0 x142).bind fun y317 => (swagelaw14_Few.f y317).bind fun (y330 : Bool) => jn (γ := (Sum Bool (Unit))) (fun (x337 : Bool) => (if x337 = true then some (.inl false) else swagelaw15_Few.l0 a0 n212 (IntKind.i64.wrap (x142 + 1)))) (fun (j338 : (Bool → Option (Sum Bool (Unit)))) => (if (!y330) = true then j338 true else (swageref14_Regs.f y317).bind fun (y344 : Int) => j338 (decide (60 < y344)))) else some (.inr ()))) (fun (j285 : (Bool → Option (Sum Bool (Unit)))) => (if x142 < (a0.length : Int) then j285 (decide (x142 < 20)) else j285 false))
def swagelaw15_Few.f (a0 : (List S45)) : Option Bool := (swagelaw15_Few.l0 a0 (a0.length + 1) 0).bind fun | .inl q_ => some q_ | .inr _ => (some (decide ((a0.length : Int) ≤ 8)))
def swagelaw15_Few.post (G : Gd)  (r : Bool) (v : Value) (G' : Gd) (Lr : List Ch) : Prop := G = G' ∧ v = .bool r ∧ Lr = []
theorem swagelaw15_Few.calls {G : Gd} {r : Bool} {a0 : (List S45)} {A1 : Option Addr} {c2 : Nat} (hr3 : Rd G k45 A1 a0) (hl4 : a0.length ≤ c2) (h : swagelaw15_Few.f a0 = some r) : Fn Try.prog 10 G [] [.slice A1 a0.length c2] (swagelaw15_Few.post G  r) := by
 refine Fn.intro (e := [(0, .slice A1 a0.length c2)]) 33 Try.func10 rfl Try.ntmps10 rfl rfl (Nat.le_of_ble_eq_true rfl) (fun L => ?_)
 unfold swagelaw15_Few.f at h
 refine TC.seq ?_
 refine TC.region ?_
 refine TL.cons (TO.val rfl rfl rfl (Val.assign rfl) ?_)
 refine TL.nil ?_
 refine TQ.then_ ?_
 refine TC.seq ?_
 refine TC.seq ?_
 refine TC.region ?_
 refine TL.cons (TO.val rfl rfl rfl (Val.assign rfl) ?_)
 refine TL.nil ?_
 refine TQ.then_ ?_
 obtain ⟨o211, ho211, ko211⟩ := bind_no h
 clear h
 refine TC.tail (fun a W => (.inr ()) = o211 ∧ Fr 33 a [(0, .slice A1 a0.length c2)] ∧ Own G (L) W) ?_ ?_
 ·
  rintro a W ⟨rfl, hF, hO⟩
  have h := ko211
  clear ko211 ho211
  refine TQ.use ?_ hF hO
  clear hF hO
  refine TQ.then_ ?_
  refine TC.seq ?_
  refine TC.region ?_
  refine TL.cons (TO.val rfl rfl rfl (Val.move rfl) ?_)
  refine TL.cons (TO.val rfl rfl rfl (Val.len Try.underlying22 rfl) ?_)
  refine TL.cons (TO.val rfl rfl rfl (Val.cmp rfl rfl run_leq) ?_)
  refine TL.cons (TO.val rfl rfl rfl (Val.assign rfl) ?_)
  refine TL.nil ?_
  refine TQ.then_ ?_
  refine TC.ret ?_
  obtain rfl := Option.some.inj h
  exact TQ.fin (.inl rfl) rfl Try.results10 (.tmp rfl .nil) rfl (FRel.mk (Ls := []) [] 0 (Gd.le.refl _) rfl rfl rfl ⟨rfl, rfl, rfl⟩)
 ·
  refine TC.block ?_
  intro a W hF hO
  have hS : ∃ (x142 : Int), swagelaw15_Few.l0 a0 (a0.length + 1) x142 = some o211 ∧ Fr 33 a [(0, .slice A1 a0.length c2), (3, .int .i64 x142)] ∧ Own G (L) W := by
   exact ⟨0, ho211, hF.sub ⟨rfl, rfl, trivial⟩, hO.selT (Ls := []) [] 0 rfl rfl rfl⟩
  clear hF hO ho211
  refine TC.loop (fun n212 a W => ∃ (x142 : Int), swagelaw15_Few.l0 a0 n212 x142 = some o211 ∧ Fr 33 a [(0, .slice A1 a0.length c2), (3, .int .i64 x142)] ∧ Own G (L) W) ?_ ?_ hS
  ·
   rintro a W ⟨x142, h, hF, hO⟩
   exact none_no h
  ·
   clear hS
   rintro n212 a W ⟨x142, h, hF, hO⟩
   rw [swagelaw15_Few.l0] at h
   refine TC.use ?_ hF hO
   clear hF hO
   refine TC.seq ?_
   refine TC.seq ?_
   obtain ⟨j285, hj285, h⟩ := jn_no h
   refine TC.tail (fun a W => ∃ (x284 : Bool), j285 x284 = some o211 ∧ Fr 33 a [(0, .slice A1 a0.length c2), (3, .int .i64 x142), (12, .bool x284)] ∧ Own G (L) W) ?_ ?_
   ·
    rintro a W ⟨x284, h, hF, hO⟩
    rw [hj285] at h
    refine TQ.use ?_ hF hO
    clear hF hO
    refine TQ.then_ ?_
    refine TC.cond_b rfl h (fun hc287 h => ?_) (fun hc287 h => ?_)
    ·
     refine TC.skip ?_
     refine TQ.then_ ?_
     refine TC.seq ?_
     refine TC.block ?_
     refine TC.seq ?_
     refine TC.region ?_
     refine TL.cons (TO.val rfl rfl rfl (Val.move rfl) ?_)
     refine TL.cons (TO.val rfl rfl rfl (Val.move rfl) ?_)
     obtain ⟨y317, hx318, h⟩ := bind_no h
     obtain ⟨ad319, cs325, hA320, hi321, hj322, hcl323, hK324⟩ := Rd.at hr3 hx318
     obtain ⟨A326, c327, rfl, hr328, hl329⟩ := k45_openR hK324
     refine TL.cons (TO.val rfl rfl rfl (Val.indexAddr Try.underlying22 fsz45 rfl hA320 rfl hi321 hj322) ?_)
     refine TL.cons (TO.val rfl rfl rfl (Val.loadsS (cs := [.int .i64 y317.f0, .slice A326 y317.f1.length c327]) agg45 fsz45 rfl rfl (Cl.sub (off := 0) (n := 2) hcl323 rfl)) ?_)
     obtain ⟨y330, hy331, h⟩ := bind_no h
     refine TL.cons (TL.callV (Lin := []) (args := [.agg #[.int .i64 y317.f0, .slice A326 y317.f1.length c327]]) rfl rfl rfl hbd24 rfl rfl (swagelaw14_Few.calls (a0 := y317) hr328 hl329 hy331) rfl ?_)
     rintro _ _ _ _ ⟨rfl, rfl, rfl⟩
     refine TL.cons (TO.val rfl rfl rfl (Val.assign rfl) ?_)
     refine TL.nil ?_
     refine TQ.then_ ?_
     refine TC.seq ?_
     obtain ⟨j338, hj338, h⟩ := jn_no h
     refine TC.tail (fun a W => ∃ (x337 : Bool), j338 x337 = some o211 ∧ Fr 33 a [(0, .slice A1 a0.length c2), (3, .int .i64 x142), (29, .bool x337)] ∧ Own G (L) W) ?_ ?_
     ·
      rintro a W ⟨x337, h, hF, hO⟩
      rw [hj338] at h
      refine TQ.use ?_ hF hO
      clear hF hO
      refine TQ.then_ ?_
      refine TC.cond_b rfl h (fun hc340 h => ?_) (fun hc340 h => ?_)
      ·
       refine TC.seq ?_
       refine TC.region ?_
       refine TL.cons (TO.val rfl rfl rfl (Val.assign rfl) ?_)
       refine TL.nil ?_
       refine TQ.then_ ?_
       refine TC.ret ?_
       refine TQ.inBR ?_
       refine TQ.thenR ?_
       refine TQ.thenR ?_
       refine TQ.inBR ?_
       refine TQ.thenR ?_
       refine TQ.thenR ?_
       obtain rfl := Option.some.inj h
       have h := ko211
       obtain rfl := Option.some.inj h
       exact TQ.fin (.inl rfl) rfl Try.results10 (.tmp rfl .nil) rfl (FRel.mk (Ls := []) [] 0 (Gd.le.refl _) rfl rfl rfl ⟨rfl, rfl, rfl⟩)
      ·
       refine TC.skip ?_
       refine TQ.inB ?_
       refine TQ.then_ ?_
       refine TC.region ?_
       refine TL.cons (TO.val rfl rfl rfl (Val.move rfl) ?_)
       refine TL.cons (TO.val rfl rfl rfl (Val.cmp rfl rfl run_add) ?_)
       refine TL.cons (TO.val rfl rfl rfl (Val.assign rfl) ?_)
       refine TL.nil ?_
       exact fun a W hF hO => ⟨IntKind.i64.wrap (x142 + 1), h, hF.sub ⟨rfl, rfl, trivial⟩, hO.selT (Ls := []) [] 0 rfl rfl rfl⟩
     ·
      refine TC.region ?_
      refine TL.cons (TO.val rfl rfl rfl (Val.move rfl) ?_)
      refine TL.cons (TO.val rfl rfl rfl (Val.not_ rfl) ?_)
      refine TL.cons (TO.val rfl rfl rfl (Val.move rfl) ?_)
      refine TK.split (p := (!y330) = true) h (fun hg341 h => ?_) (fun hg341 h => ?_)
      ·
       have hk342 : (!y330) = true := hg341
       refine TL.cons (TL.not (Wt.no rfl rfl rfl hk342) rfl ?_)
       refine TL.cons (TL.not (Wt.no rfl rfl rfl hk342) rfl ?_)
       refine TL.cons (TL.not (Wt.no rfl rfl rfl hk342) rfl ?_)
       refine TL.cons (TL.not (Wt.no rfl rfl rfl hk342) rfl ?_)
       refine TL.cons (TL.not (Wt.no rfl rfl rfl hk342) rfl ?_)
       refine TL.cons (TL.not (Wt.no rfl rfl rfl hk342) rfl ?_)
       refine TL.cons (TO.val rfl rfl rfl (Val.pickY rfl hk342 rfl) ?_)
       refine TL.nil ?_
       exact fun a W hF hO => ⟨true, h, hF.sub ⟨rfl, rfl, rfl, trivial⟩, hO.selT (Ls := []) [] 0 rfl rfl rfl⟩
      ·
       have hk343 : (!y330) = false := (by simpa using hg341)
       refine TL.cons (TO.val (Wt.yes rfl rfl rfl hk343) rfl rfl (Val.move rfl) ?_)
       refine TL.cons (TO.val (Wt.yes rfl rfl rfl hk343) rfl rfl (Val.move rfl) ?_)
       refine TL.cons (TO.val (Wt.yes rfl rfl rfl hk343) rfl rfl (Val.indexAddr Try.underlying22 fsz45 rfl hA320 rfl hi321 hj322) ?_)
       refine TL.cons (TO.val (Wt.yes rfl rfl rfl hk343) rfl rfl (Val.loadsS (cs := [.int .i64 y317.f0, .slice A326 y317.f1.length c327]) agg45 fsz45 rfl rfl (Cl.sub (off := 0) (n := 2) hcl323 rfl)) ?_)
       obtain ⟨y344, hy345, h⟩ := bind_no h
       refine TL.cons (TL.callV (Lin := []) (args := [.agg #[.int .i64 y317.f0, .slice A326 y317.f1.length c327]]) (Wt.yes rfl rfl rfl hk343) rfl rfl hbd25 rfl rfl (swageref14_Regs.calls (a0 := y317) hr328 hl329 hy345) rfl ?_)
       rintro _ _ _ _ ⟨rfl, rfl, rfl⟩
       refine TL.cons (TO.val (Wt.yes rfl rfl rfl hk343) rfl rfl (Val.cmp rfl rfl run_gtr) ?_)
       refine TL.cons (TO.val rfl rfl rfl (Val.pickN rfl hk343 rfl) ?_)
       refine TL.nil ?_
       exact fun a W hF hO => ⟨decide (60 < y344), h, hF.sub ⟨rfl, rfl, rfl, trivial⟩, hO.selT (Ls := []) [] 0 rfl rfl rfl⟩
    ·
     refine TC.exit ?_
     refine TQ.thenX ?_
     refine TQ.thenX ?_
     refine TQ.inBX ?_
     exact fun a W hF hO => ⟨Option.some.inj h, hF.sub ⟨rfl, trivial⟩, hO.selT (Ls := []) [] 0 rfl rfl rfl⟩
   ·
    refine TC.region ?_
    refine TL.cons (TO.val rfl rfl rfl (Val.move rfl) ?_)
    refine TL.cons (TO.val rfl rfl rfl (Val.move rfl) ?_)
    refine TL.cons (TO.val rfl rfl rfl (Val.len Try.underlying22 rfl) ?_)
    refine TL.cons (TO.val rfl rfl rfl (Val.cmp rfl rfl run_lss) ?_)
    refine TL.cons (TO.val rfl rfl rfl (Val.move rfl) ?_)
    refine TK.split (p := x142 < (a0.length : Int)) h (fun hg346 h => ?_) (fun hg346 h => ?_)
    ·
     have hk347 : decide (x142 < (a0.length : Int)) = true := decide_eq_true hg346
     refine TL.cons (TO.val (Wt.yes rfl rfl rfl hk347) rfl rfl (Val.move rfl) ?_)
     refine TL.cons (TO.val (Wt.yes rfl rfl rfl hk347) rfl rfl (Val.cmp rfl rfl run_lss) ?_)
     refine TL.cons (TO.val rfl rfl rfl (Val.pickY rfl hk347 rfl) ?_)
     refine TL.nil ?_
     exact fun a W hF hO => ⟨decide (x142 < 20), h, hF.sub ⟨rfl, rfl, rfl, trivial⟩, hO.selT (Ls := []) [] 0 rfl rfl rfl⟩
    ·
     have hk348 : decide (x142 < (a0.length : Int)) = false := decide_eq_false hg346
     refine TL.cons (TL.not (Wt.no rfl rfl rfl hk348) rfl ?_)
     refine TL.cons (TL.not (Wt.no rfl rfl rfl hk348) rfl ?_)
     refine TL.cons (TO.val rfl rfl rfl (Val.pickN rfl hk348 rfl) ?_)
     refine TL.nil ?_
     exact fun a W hF hO => ⟨false, h, hF.sub ⟨rfl, rfl, rfl, trivial⟩, hO.selT (Ls := []) [] 0 rfl rfl rfl⟩
end Go.Proofs.Ytfmocegnpmomnaa.Sy
set_option linter.unusedVariables false
set_option linter.unusedSimpArgs false
set_option maxRecDepth 100000
set_option maxHeartbeats 4000000
namespace Go.Proofs.Ytfmocegnpmomnaa.Sy
open Go Go.RowKit Go.Proofs.YtfmocegnpmomnaaW.PrintWords 
def swagelaw15_TraceCounts.f (a0 : (List S45)) (a1 : Int) (a2 : (List Int)) (a3 : Int) : Option Bool := (swagelaw15_small.f).bind fun (y9 : Bool) => (swagelaw15_Few.f a0).bind fun (y13 : Bool) => jn (γ := Bool) (fun (x32 : Bool) => (if x32 = true then some y9 else (trace_Run.f a0 a1 a2 a3).bind fun (y36 : (S28 × Int)) => (trace_Run.f a0 a1 a2 a3).bind fun (y42 : (S28 × Int)) => jn (γ := Bool) (fun (x77 : Bool) => (if x77 = true then some false else (if y9 = true then (if (IntKind.i64.wrap ((IntKind.i64.wrap ((y36.1.f0.length : Int) + y36.1.f2)) + y36.1.f3)) ≤ a3 then (if y36.1.f4 < a1 then (if 0 ≤ y36.1.f2 then (if 0 ≤ y36.1.f3 then some (decide (0 ≤ y36.1.f4)) else some false) else some false) else some false) else some false) else some false))) (fun (j78 : (Bool → Option Bool)) => (if (!decide (y36.2 = y42.2)) = true then j78 true else (trace_Same.f y36.1 y42.1).bind fun (y126 : Bool) => (if (!y126) = true then j78 true else (trace_Prefix.f y36.1 y42.1).bind fun (y131 : Bool) => (if (!y131) = true then j78 true else (trace_Prefix.f y42.1 y36.1).bind fun (y136 : Bool) => j78 (!y136))))))) (fun (j33 : (Bool → Option Bool)) => (if (!y13) = true then j33 true else (if a1 < 1 then j33 true else (if 4096 < a1 then j33 true else (if 100 < (a2.length : Int) then j33 true else (if a3 < 0 then j33 true else j33 (decide (3000 < a3))))))))
def swagelaw15_TraceCounts.post (G : Gd)  (r : Bool) (v : Value) (G' : Gd) (Lr : List Ch) : Prop := v = .bool r ∧ Lr = []
theorem swagelaw15_TraceCounts.calls {G : Gd} {r : Bool} {a0 : (List S45)} {a1 : Int} {a2 : (List Int)} {a3 : Int} {A1 : Option Addr} {c2 : Nat} {A5 : Option Addr} {c6 : Nat} (hr3 : Rd G k45 A1 a0) (hl4 : a0.length ≤ c2) (hr7 : Rd G (Kd.int .i64) A5 a2) (hl8 : a2.length ≤ c6) (h : swagelaw15_TraceCounts.f a0 a1 a2 a3 = some r) : Fn Try.prog 5 G [] [.slice A1 a0.length c2, .int .i64 a1, .slice A5 a2.length c6, .int .i64 a3] (swagelaw15_TraceCounts.post G  r) := by
 refine Fn.intro (e := [(0, .slice A1 a0.length c2), (1, .int .i64 a1), (2, .slice A5 a2.length c6), (3, .int .i64 a3)]) 114 Try.func5 rfl Try.ntmps5 rfl rfl (Nat.le_of_ble_eq_true rfl) (fun L => ?_)
 unfold swagelaw15_TraceCounts.f at h
 refine TC.seq ?_
 refine TC.region ?_
 refine TL.cons (TO.val rfl rfl rfl (Val.assign rfl) ?_)
 refine TL.nil ?_
 refine TQ.then_ ?_
 refine TC.seq ?_
 refine TC.region ?_
 obtain ⟨y9, hy10, h⟩ := bind_no h
 refine TL.cons (TL.callV (Lin := []) (args := []) rfl rfl rfl hbd9 rfl rfl (swagelaw15_small.calls hy10) rfl ?_)
 rintro _ G11 _ e12 ⟨rfl, rfl⟩
 refine TL.cons (TO.val rfl rfl rfl (Val.assign rfl) ?_)
 refine TL.nil ?_
 refine TQ.then_ ?_
 refine TC.seq ?_
 refine TC.region ?_
 refine TL.cons (TO.val rfl rfl rfl (Val.move rfl) ?_)
 obtain ⟨y13, hy14, h⟩ := bind_no h
 refine TL.cons (TL.callV (Lin := []) (args := [.slice A1 a0.length c2]) rfl rfl rfl hbd10 rfl rfl (swagelaw15_Few.calls (a0 := a0) (hr3.up e12) hl4 hy14) rfl ?_)
 rintro _ _ _ _ ⟨rfl, rfl, rfl⟩
 refine TL.cons (TO.val rfl rfl rfl (Val.assign rfl) ?_)
 refine TL.nil ?_
 refine TQ.then_ ?_
 refine TC.seq ?_
 refine TC.seq ?_
 obtain ⟨j33, hj33, h⟩ := jn_no h
 refine TC.tail (fun a W => ∃ (x32 : Bool) (G30 : Gd), j33 x32 = some r ∧ G.le G30 ∧ Fr 114 a [(0, .slice A1 a0.length c2), (1, .int .i64 a1), (2, .slice A5 a2.length c6), (3, .int .i64 a3), (9, .bool y9), (40, .bool x32)] ∧ Own G30 (L) W) ?_ ?_
 ·
  rintro a W ⟨x32, G30, h, e31, hF, hO⟩
  rw [hj33] at h
  refine TQ.use ?_ hF hO
  clear hF hO
  refine TQ.then_ ?_
  refine TC.cond_b rfl h (fun hc35 h => ?_) (fun hc35 h => ?_)
  ·
   refine TC.seq ?_
   refine TC.region ?_
   refine TL.cons (TO.val rfl rfl rfl (Val.move rfl) ?_)
   refine TL.cons (TO.val rfl rfl rfl (Val.assign rfl) ?_)
   refine TL.nil ?_
   refine TQ.then_ ?_
   refine TC.ret ?_
   refine TQ.thenR ?_
   obtain rfl := Option.some.inj h
   exact TQ.fin (.inl rfl) rfl Try.results5 (.tmp rfl .nil) rfl (FRel.mk (Ls := []) [] 0 e31 rfl rfl rfl ⟨rfl, rfl⟩)
  ·
   refine TC.skip ?_
   refine TQ.then_ ?_
   refine TC.seq ?_
   refine TC.region ?_
   refine TL.cons (TO.val rfl rfl rfl (Val.move rfl) ?_)
   refine TL.cons (TO.val rfl rfl rfl (Val.move rfl) ?_)
   refine TL.cons (TO.val rfl rfl rfl (Val.move rfl) ?_)
   refine TL.cons (TO.val rfl rfl rfl (Val.move rfl) ?_)
   obtain ⟨y36, hy37, h⟩ := bind_no h
   refine TL.cons (TL.callV (Lin := []) (args := [.slice A1 a0.length c2, .int .i64 a1, .slice A5 a2.length c6, .int .i64 a3]) rfl rfl rfl hbd11 rfl rfl (trace_Run.calls (a0 := a0) (a1 := a1) (a2 := a2) (a3 := a3) (hr3.up e31) hl4 (hr7.up e31) hl8 hy37) rfl ?_)
   rintro _ _ _ _ ⟨rfl, A38, c39, rfl, rfl⟩
   refine TL.cons (TO.val rfl rfl rfl (Val.move rfl) ?_)
   refine TL.cons (TO.val rfl rfl rfl (Val.extract rfl rfl) ?_)
   refine TL.cons (TO.val rfl rfl rfl (Val.extract rfl rfl) ?_)
   refine TL.cons (TL.alloc (cs := [.slice none 0 0, .int .i64 0, .int .i64 0, .int .i64 0, .int .i64 0]) rfl rfl zr28 rfl (fun b41 => ?_))
   refine TL.cons (TL.store 0 (ds := [.slice A38 y36.1.f0.length c39, .int .i64 y36.1.f1, .int .i64 y36.1.f2, .int .i64 y36.1.f3, .int .i64 y36.1.f4]) (cs' := [.slice A38 y36.1.f0.length c39, .int .i64 y36.1.f1, .int .i64 y36.1.f2, .int .i64 y36.1.f3, .int .i64 y36.1.f4]) (L' := (Blk b41 [.slice A38 y36.1.f0.length c39, .int .i64 y36.1.f1, .int .i64 y36.1.f2, .int .i64 y36.1.f3, .int .i64 y36.1.f4] 28 :: Row (Kd.int .i64) 3 (.slice A38 y36.1.f0.length c39) y36.1.f0 :: L)) rfl fsz28 rfl rfl rfl rfl rfl (Nat.le_of_ble_eq_true rfl) rfl rfl ?_)
   refine TL.cons (TO.val rfl rfl rfl (Val.assign rfl) ?_)
   refine TL.nil ?_
   refine TQ.then_ ?_
   refine TC.seq ?_
   refine TC.region ?_
   refine TL.cons (TO.val rfl rfl rfl (Val.move rfl) ?_)
   refine TL.cons (TO.val rfl rfl rfl (Val.move rfl) ?_)
   refine TL.cons (TO.val rfl rfl rfl (Val.move rfl) ?_)
   refine TL.cons (TO.val rfl rfl rfl (Val.move rfl) ?_)
   obtain ⟨y42, hy43, h⟩ := bind_no h
   refine TL.cons (TL.callV (Lin := []) (args := [.slice A1 a0.length c2, .int .i64 a1, .slice A5 a2.length c6, .int .i64 a3]) rfl rfl rfl hbd11 rfl rfl (trace_Run.calls (a0 := a0) (a1 := a1) (a2 := a2) (a3 := a3) (hr3.up e31) hl4 (hr7.up e31) hl8 hy43) rfl ?_)
   rintro _ _ _ _ ⟨rfl, A44, c45, rfl, rfl⟩
   refine TL.cons (TO.val rfl rfl rfl (Val.move rfl) ?_)
   refine TL.cons (TO.val rfl rfl rfl (Val.extract rfl rfl) ?_)
   refine TL.cons (TO.val rfl rfl rfl (Val.extract rfl rfl) ?_)
   refine TL.cons (TL.alloc (cs := [.slice none 0 0, .int .i64 0, .int .i64 0, .int .i64 0, .int .i64 0]) rfl rfl zr28 rfl (fun b47 => ?_))
   refine TL.cons (TL.store 0 (ds := [.slice A44 y42.1.f0.length c45, .int .i64 y42.1.f1, .int .i64 y42.1.f2, .int .i64 y42.1.f3, .int .i64 y42.1.f4]) (cs' := [.slice A44 y42.1.f0.length c45, .int .i64 y42.1.f1, .int .i64 y42.1.f2, .int .i64 y42.1.f3, .int .i64 y42.1.f4]) (L' := (Blk b47 [.slice A44 y42.1.f0.length c45, .int .i64 y42.1.f1, .int .i64 y42.1.f2, .int .i64 y42.1.f3, .int .i64 y42.1.f4] 28 :: Row (Kd.int .i64) 3 (.slice A44 y42.1.f0.length c45) y42.1.f0 :: Blk b41 [.slice A38 y36.1.f0.length c39, .int .i64 y36.1.f1, .int .i64 y36.1.f2, .int .i64 y36.1.f3, .int .i64 y36.1.f4] 28 :: Row (Kd.int .i64) 3 (.slice A38 y36.1.f0.length c39) y36.1.f0 :: L)) rfl fsz28 rfl rfl rfl rfl rfl (Nat.le_of_ble_eq_true rfl) rfl rfl ?_)
   refine TL.cons (TO.val rfl rfl rfl (Val.assign rfl) ?_)
   refine TL.nil ?_
   refine TQ.then_ ?_
   refine TC.seq ?_
   refine TC.seq ?_
   obtain ⟨j78, hj78, h⟩ := jn_no h
   refine TC.tail (fun a W => ∃ (x77 : Bool) (G75 : Gd), j78 x77 = some r ∧ G.le G75 ∧ Fr 114 a [(1, .int .i64 a1), (3, .int .i64 a3), (9, .bool y9), (11, .pointer (some ⟨b41, 0, none⟩)), (78, .bool x77)] ∧ Own G75 (Blk b41 [.slice A38 y36.1.f0.length c39, .int .i64 y36.1.f1, .int .i64 y36.1.f2, .int .i64 y36.1.f3, .int .i64 y36.1.f4] 28 :: Row (Kd.int .i64) 3 (.slice A38 y36.1.f0.length c39) y36.1.f0 :: L) W) ?_ ?_
   ·
    rintro a W ⟨x77, G75, h, e76, hF, hO⟩
    rw [hj78] at h
    refine TQ.use ?_ hF hO
    clear hF hO
    refine TQ.then_ ?_
    refine TC.cond_b rfl h (fun hc80 h => ?_) (fun hc80 h => ?_)
    ·
     refine TC.seq ?_
     refine TC.region ?_
     refine TL.cons (TO.val rfl rfl rfl (Val.assign rfl) ?_)
     refine TL.nil ?_
     refine TQ.then_ ?_
     refine TC.ret ?_
     refine TQ.thenR ?_
     obtain rfl := Option.some.inj h
     exact TQ.fin (.inl rfl) rfl Try.results5 (.tmp rfl .nil) rfl (FRel.mk (Ls := []) [] 2 e76 rfl rfl rfl ⟨rfl, rfl⟩)
    ·
     refine TC.skip ?_
     refine TQ.then_ ?_
     refine TC.seq ?_
     refine TC.region ?_
     refine TL.cons (TO.val rfl rfl rfl (Val.move rfl) ?_)
     refine TL.cons (TO.val rfl rfl rfl (Val.move rfl) ?_)
     refine TK.split (p := y9 = true) h (fun hg96 h => ?_) (fun hg96 h => ?_)
     ·
      have hk97 : y9 = true := hg96
      refine TL.cons (TO.val (Wt.yes rfl rfl rfl hk97) rfl rfl (Val.fieldAddrB Try.underlying28 rfl fsz23 rfl rfl rfl) ?_)
      refine TL.cons (TO.val (Wt.yes rfl rfl rfl hk97) rfl rfl (Val.loadB 0 agg23 rfl rfl rfl) ?_)
      refine TL.cons (TO.val (Wt.yes rfl rfl rfl hk97) rfl rfl (Val.len Try.underlying23 rfl) ?_)
      refine TL.cons (TO.val (Wt.yes rfl rfl rfl hk97) rfl rfl (Val.fieldAddrB Try.underlying28 rfl fsz3 rfl rfl rfl) ?_)
      refine TL.cons (TO.val (Wt.yes rfl rfl rfl hk97) rfl rfl (Val.loadB 0 agg3 rfl rfl rfl) ?_)
      refine TL.cons (TO.val (Wt.yes rfl rfl rfl hk97) rfl rfl (Val.cmp rfl rfl run_add) ?_)
      refine TL.cons (TO.val (Wt.yes rfl rfl rfl hk97) rfl rfl (Val.fieldAddrB Try.underlying28 rfl fsz3 rfl rfl rfl) ?_)
      refine TL.cons (TO.val (Wt.yes rfl rfl rfl hk97) rfl rfl (Val.loadB 0 agg3 rfl rfl rfl) ?_)
      refine TL.cons (TO.val (Wt.yes rfl rfl rfl hk97) rfl rfl (Val.cmp rfl rfl run_add) ?_)
      refine TL.cons (TO.val (Wt.yes rfl rfl rfl hk97) rfl rfl (Val.move rfl) ?_)
      refine TL.cons (TO.val (Wt.yes rfl rfl rfl hk97) rfl rfl (Val.cmp rfl rfl run_leq) ?_)
      refine TL.cons (TO.val rfl rfl rfl (Val.pickY rfl hk97 rfl) ?_)
      refine TL.cons (TO.val rfl rfl rfl (Val.move rfl) ?_)
      refine TK.split (p := (IntKind.i64.wrap ((IntKind.i64.wrap ((y36.1.f0.length : Int) + y36.1.f2)) + y36.1.f3)) ≤ a3) h (fun hg98 h => ?_) (fun hg98 h => ?_)
      ·
       have hk99 : decide ((IntKind.i64.wrap ((IntKind.i64.wrap ((y36.1.f0.length : Int) + y36.1.f2)) + y36.1.f3)) ≤ a3) = true := decide_eq_true hg98
       refine TL.cons (TO.val (Wt.yes rfl rfl rfl hk99) rfl rfl (Val.fieldAddrB Try.underlying28 rfl fsz3 rfl rfl rfl) ?_)
       refine TL.cons (TO.val (Wt.yes rfl rfl rfl hk99) rfl rfl (Val.loadB 0 agg3 rfl rfl rfl) ?_)
       refine TL.cons (TO.val (Wt.yes rfl rfl rfl hk99) rfl rfl (Val.move rfl) ?_)
       refine TL.cons (TO.val (Wt.yes rfl rfl rfl hk99) rfl rfl (Val.cmp rfl rfl run_lss) ?_)
       refine TL.cons (TO.val rfl rfl rfl (Val.pickY rfl hk99 rfl) ?_)
       refine TL.cons (TO.val rfl rfl rfl (Val.move rfl) ?_)
       refine TK.split (p := y36.1.f4 < a1) h (fun hg100 h => ?_) (fun hg100 h => ?_)
       ·
        have hk101 : decide (y36.1.f4 < a1) = true := decide_eq_true hg100
        refine TL.cons (TO.val (Wt.yes rfl rfl rfl hk101) rfl rfl (Val.fieldAddrB Try.underlying28 rfl fsz3 rfl rfl rfl) ?_)
        refine TL.cons (TO.val (Wt.yes rfl rfl rfl hk101) rfl rfl (Val.loadB 0 agg3 rfl rfl rfl) ?_)
        refine TL.cons (TO.val (Wt.yes rfl rfl rfl hk101) rfl rfl (Val.cmp rfl rfl run_geq) ?_)
        refine TL.cons (TO.val rfl rfl rfl (Val.pickY rfl hk101 rfl) ?_)
        refine TL.cons (TO.val rfl rfl rfl (Val.move rfl) ?_)
        refine TK.split (p := 0 ≤ y36.1.f2) h (fun hg102 h => ?_) (fun hg102 h => ?_)
        ·
         have hk103 : decide (0 ≤ y36.1.f2) = true := decide_eq_true hg102
         refine TL.cons (TO.val (Wt.yes rfl rfl rfl hk103) rfl rfl (Val.fieldAddrB Try.underlying28 rfl fsz3 rfl rfl rfl) ?_)
         refine TL.cons (TO.val (Wt.yes rfl rfl rfl hk103) rfl rfl (Val.loadB 0 agg3 rfl rfl rfl) ?_)
         refine TL.cons (TO.val (Wt.yes rfl rfl rfl hk103) rfl rfl (Val.cmp rfl rfl run_geq) ?_)
         refine TL.cons (TO.val rfl rfl rfl (Val.pickY rfl hk103 rfl) ?_)
         refine TL.cons (TO.val rfl rfl rfl (Val.move rfl) ?_)
         refine TK.split (p := 0 ≤ y36.1.f3) h (fun hg104 h => ?_) (fun hg104 h => ?_)
         ·
          have hk105 : decide (0 ≤ y36.1.f3) = true := decide_eq_true hg104
          refine TL.cons (TO.val (Wt.yes rfl rfl rfl hk105) rfl rfl (Val.fieldAddrB Try.underlying28 rfl fsz3 rfl rfl rfl) ?_)
          refine TL.cons (TO.val (Wt.yes rfl rfl rfl hk105) rfl rfl (Val.loadB 0 agg3 rfl rfl rfl) ?_)
          refine TL.cons (TO.val (Wt.yes rfl rfl rfl hk105) rfl rfl (Val.cmp rfl rfl run_geq) ?_)
          refine TL.cons (TO.val rfl rfl rfl (Val.pickY rfl hk105 rfl) ?_)
          refine TL.cons (TO.val rfl rfl rfl (Val.assign rfl) ?_)
          refine TL.nil ?_
          refine TQ.then_ ?_
          refine TC.ret ?_
          obtain rfl := Option.some.inj h
          exact TQ.fin (.inl rfl) rfl Try.results5 (.tmp rfl .nil) rfl (FRel.mk (Ls := []) [] 2 e76 rfl rfl rfl ⟨rfl, rfl⟩)
         ·
          have hk106 : decide (0 ≤ y36.1.f3) = false := decide_eq_false hg104
          refine TL.cons (TL.not (Wt.no rfl rfl rfl hk106) rfl ?_)
          refine TL.cons (TL.not (Wt.no rfl rfl rfl hk106) rfl ?_)
          refine TL.cons (TL.not (Wt.no rfl rfl rfl hk106) rfl ?_)
          refine TL.cons (TO.val rfl rfl rfl (Val.pickN rfl hk106 rfl) ?_)
          refine TL.cons (TO.val rfl rfl rfl (Val.assign rfl) ?_)
          refine TL.nil ?_
          refine TQ.then_ ?_
          refine TC.ret ?_
          obtain rfl := Option.some.inj h
          exact TQ.fin (.inl rfl) rfl Try.results5 (.tmp rfl .nil) rfl (FRel.mk (Ls := []) [] 2 e76 rfl rfl rfl ⟨rfl, rfl⟩)
        ·
         have hk107 : decide (0 ≤ y36.1.f2) = false := decide_eq_false hg102
         refine TL.cons (TL.not (Wt.no rfl rfl rfl hk107) rfl ?_)
         refine TL.cons (TL.not (Wt.no rfl rfl rfl hk107) rfl ?_)
         refine TL.cons (TL.not (Wt.no rfl rfl rfl hk107) rfl ?_)
         refine TL.cons (TO.val rfl rfl rfl (Val.pickN rfl hk107 rfl) ?_)
         refine TL.cons (TO.val rfl rfl rfl (Val.move rfl) ?_)
         refine TL.cons (TL.not (Wt.no rfl rfl rfl rfl) rfl ?_)
         refine TL.cons (TL.not (Wt.no rfl rfl rfl rfl) rfl ?_)
         refine TL.cons (TL.not (Wt.no rfl rfl rfl rfl) rfl ?_)
         refine TL.cons (TO.val rfl rfl rfl (Val.pickN rfl rfl rfl) ?_)
         refine TL.cons (TO.val rfl rfl rfl (Val.assign rfl) ?_)
         refine TL.nil ?_
         refine TQ.then_ ?_
         refine TC.ret ?_
         obtain rfl := Option.some.inj h
         exact TQ.fin (.inl rfl) rfl Try.results5 (.tmp rfl .nil) rfl (FRel.mk (Ls := []) [] 2 e76 rfl rfl rfl ⟨rfl, rfl⟩)
       ·
        have hk108 : decide (y36.1.f4 < a1) = false := decide_eq_false hg100
        refine TL.cons (TL.not (Wt.no rfl rfl rfl hk108) rfl ?_)
        refine TL.cons (TL.not (Wt.no rfl rfl rfl hk108) rfl ?_)
        refine TL.cons (TL.not (Wt.no rfl rfl rfl hk108) rfl ?_)
        refine TL.cons (TO.val rfl rfl rfl (Val.pickN rfl hk108 rfl) ?_)
        refine TL.cons (TO.val rfl rfl rfl (Val.move rfl) ?_)
        refine TL.cons (TL.not (Wt.no rfl rfl rfl rfl) rfl ?_)
        refine TL.cons (TL.not (Wt.no rfl rfl rfl rfl) rfl ?_)
        refine TL.cons (TL.not (Wt.no rfl rfl rfl rfl) rfl ?_)
        refine TL.cons (TO.val rfl rfl rfl (Val.pickN rfl rfl rfl) ?_)
        refine TL.cons (TO.val rfl rfl rfl (Val.move rfl) ?_)
        refine TL.cons (TL.not (Wt.no rfl rfl rfl rfl) rfl ?_)
        refine TL.cons (TL.not (Wt.no rfl rfl rfl rfl) rfl ?_)
        refine TL.cons (TL.not (Wt.no rfl rfl rfl rfl) rfl ?_)
        refine TL.cons (TO.val rfl rfl rfl (Val.pickN rfl rfl rfl) ?_)
        refine TL.cons (TO.val rfl rfl rfl (Val.assign rfl) ?_)
        refine TL.nil ?_
        refine TQ.then_ ?_
        refine TC.ret ?_
        obtain rfl := Option.some.inj h
        exact TQ.fin (.inl rfl) rfl Try.results5 (.tmp rfl .nil) rfl (FRel.mk (Ls := []) [] 2 e76 rfl rfl rfl ⟨rfl, rfl⟩)
      ·
       have hk109 : decide ((IntKind.i64.wrap ((IntKind.i64.wrap ((y36.1.f0.length : Int) + y36.1.f2)) + y36.1.f3)) ≤ a3) = false := decide_eq_false hg98
       refine TL.cons (TL.not (Wt.no rfl rfl rfl hk109) rfl ?_)
       refine TL.cons (TL.not (Wt.no rfl rfl rfl hk109) rfl ?_)
       refine TL.cons (TL.not (Wt.no rfl rfl rfl hk109) rfl ?_)
       refine TL.cons (TL.not (Wt.no rfl rfl rfl hk109) rfl ?_)
       refine TL.cons (TO.val rfl rfl rfl (Val.pickN rfl hk109 rfl) ?_)
       refine TL.cons (TO.val rfl rfl rfl (Val.move rfl) ?_)
       refine TL.cons (TL.not (Wt.no rfl rfl rfl rfl) rfl ?_)
       refine TL.cons (TL.not (Wt.no rfl rfl rfl rfl) rfl ?_)
       refine TL.cons (TL.not (Wt.no rfl rfl rfl rfl) rfl ?_)
       refine TL.cons (TO.val rfl rfl rfl (Val.pickN rfl rfl rfl) ?_)
       refine TL.cons (TO.val rfl rfl rfl (Val.move rfl) ?_)
       refine TL.cons (TL.not (Wt.no rfl rfl rfl rfl) rfl ?_)
       refine TL.cons (TL.not (Wt.no rfl rfl rfl rfl) rfl ?_)
       refine TL.cons (TL.not (Wt.no rfl rfl rfl rfl) rfl ?_)
       refine TL.cons (TO.val rfl rfl rfl (Val.pickN rfl rfl rfl) ?_)
       refine TL.cons (TO.val rfl rfl rfl (Val.move rfl) ?_)
       refine TL.cons (TL.not (Wt.no rfl rfl rfl rfl) rfl ?_)
       refine TL.cons (TL.not (Wt.no rfl rfl rfl rfl) rfl ?_)
       refine TL.cons (TL.not (Wt.no rfl rfl rfl rfl) rfl ?_)
       refine TL.cons (TO.val rfl rfl rfl (Val.pickN rfl rfl rfl) ?_)
       refine TL.cons (TO.val rfl rfl rfl (Val.assign rfl) ?_)
       refine TL.nil ?_
       refine TQ.then_ ?_
       refine TC.ret ?_
       obtain rfl := Option.some.inj h
       exact TQ.fin (.inl rfl) rfl Try.results5 (.tmp rfl .nil) rfl (FRel.mk (Ls := []) [] 2 e76 rfl rfl rfl ⟨rfl, rfl⟩)
     ·
      have hk110 : y9 = false := (by simpa using hg96)
      refine TL.cons (TL.not (Wt.no rfl rfl rfl hk110) rfl ?_)
      refine TL.cons (TL.not (Wt.no rfl rfl rfl hk110) rfl ?_)
      refine TL.cons (TL.not (Wt.no rfl rfl rfl hk110) rfl ?_)
      refine TL.cons (TL.not (Wt.no rfl rfl rfl hk110) rfl ?_)
      refine TL.cons (TL.not (Wt.no rfl rfl rfl hk110) rfl ?_)
      refine TL.cons (TL.not (Wt.no rfl rfl rfl hk110) rfl ?_)
      refine TL.cons (TL.not (Wt.no rfl rfl rfl hk110) rfl ?_)
      refine TL.cons (TL.not (Wt.no rfl rfl rfl hk110) rfl ?_)
      refine TL.cons (TL.not (Wt.no rfl rfl rfl hk110) rfl ?_)
      refine TL.cons (TL.not (Wt.no rfl rfl rfl hk110) rfl ?_)
      refine TL.cons (TL.not (Wt.no rfl rfl rfl hk110) rfl ?_)
      refine TL.cons (TO.val rfl rfl rfl (Val.pickN rfl hk110 rfl) ?_)
      refine TL.cons (TO.val rfl rfl rfl (Val.move rfl) ?_)
      refine TL.cons (TL.not (Wt.no rfl rfl rfl rfl) rfl ?_)
      refine TL.cons (TL.not (Wt.no rfl rfl rfl rfl) rfl ?_)
      refine TL.cons (TL.not (Wt.no rfl rfl rfl rfl) rfl ?_)
      refine TL.cons (TL.not (Wt.no rfl rfl rfl rfl) rfl ?_)
      refine TL.cons (TO.val rfl rfl rfl (Val.pickN rfl rfl rfl) ?_)
      refine TL.cons (TO.val rfl rfl rfl (Val.move rfl) ?_)
      refine TL.cons (TL.not (Wt.no rfl rfl rfl rfl) rfl ?_)
      refine TL.cons (TL.not (Wt.no rfl rfl rfl rfl) rfl ?_)
      refine TL.cons (TL.not (Wt.no rfl rfl rfl rfl) rfl ?_)
      refine TL.cons (TO.val rfl rfl rfl (Val.pickN rfl rfl rfl) ?_)
      refine TL.cons (TO.val rfl rfl rfl (Val.move rfl) ?_)
      refine TL.cons (TL.not (Wt.no rfl rfl rfl rfl) rfl ?_)
      refine TL.cons (TL.not (Wt.no rfl rfl rfl rfl) rfl ?_)
      refine TL.cons (TL.not (Wt.no rfl rfl rfl rfl) rfl ?_)
      refine TL.cons (TO.val rfl rfl rfl (Val.pickN rfl rfl rfl) ?_)
      refine TL.cons (TO.val rfl rfl rfl (Val.move rfl) ?_)
      refine TL.cons (TL.not (Wt.no rfl rfl rfl rfl) rfl ?_)
      refine TL.cons (TL.not (Wt.no rfl rfl rfl rfl) rfl ?_)
      refine TL.cons (TL.not (Wt.no rfl rfl rfl rfl) rfl ?_)
      refine TL.cons (TO.val rfl rfl rfl (Val.pickN rfl rfl rfl) ?_)
      refine TL.cons (TO.val rfl rfl rfl (Val.assign rfl) ?_)
      refine TL.nil ?_
      refine TQ.then_ ?_
      refine TC.ret ?_
      obtain rfl := Option.some.inj h
      exact TQ.fin (.inl rfl) rfl Try.results5 (.tmp rfl .nil) rfl (FRel.mk (Ls := []) [] 2 e76 rfl rfl rfl ⟨rfl, rfl⟩)
   ·
    refine TC.region ?_
    refine TL.cons (TO.val rfl rfl rfl (Val.move rfl) ?_)
    refine TL.cons (TO.val rfl rfl rfl (Val.move rfl) ?_)
    refine TL.cons (TO.val rfl rfl rfl (Val.cmp rfl rfl run_neq) ?_)
    refine TL.cons (TO.val rfl rfl rfl (Val.move rfl) ?_)
    refine TK.split (p := (!decide (y36.2 = y42.2)) = true) h (fun hg111 h => ?_) (fun hg111 h => ?_)
    ·
     have hk112 : (!decide (y36.2 = y42.2)) = true := hg111
     refine TL.cons (TL.not (Wt.no rfl rfl rfl hk112) rfl ?_)
     refine TL.cons (TL.not (Wt.no rfl rfl rfl hk112) rfl ?_)
     refine TL.cons (TL.not (Wt.no rfl rfl rfl hk112) rfl ?_)
     refine TL.cons (TL.not (Wt.no rfl rfl rfl hk112) rfl ?_)
     refine TL.cons (TO.val rfl rfl rfl (Val.pickY rfl hk112 rfl) ?_)
     refine TL.cons (TO.val rfl rfl rfl (Val.move rfl) ?_)
     refine TL.cons (TL.not (Wt.no rfl rfl rfl rfl) rfl ?_)
     refine TL.cons (TL.not (Wt.no rfl rfl rfl rfl) rfl ?_)
     refine TL.cons (TL.not (Wt.no rfl rfl rfl rfl) rfl ?_)
     refine TL.cons (TL.not (Wt.no rfl rfl rfl rfl) rfl ?_)
     refine TL.cons (TO.val rfl rfl rfl (Val.pickY rfl rfl rfl) ?_)
     refine TL.cons (TO.val rfl rfl rfl (Val.move rfl) ?_)
     refine TL.cons (TL.not (Wt.no rfl rfl rfl rfl) rfl ?_)
     refine TL.cons (TL.not (Wt.no rfl rfl rfl rfl) rfl ?_)
     refine TL.cons (TL.not (Wt.no rfl rfl rfl rfl) rfl ?_)
     refine TL.cons (TL.not (Wt.no rfl rfl rfl rfl) rfl ?_)
     refine TL.cons (TO.val rfl rfl rfl (Val.pickY rfl rfl rfl) ?_)
     refine TL.nil ?_
     exact fun a W hF hO => ⟨true, G30, h, e31, hF.sub ⟨rfl, rfl, rfl, rfl, rfl, trivial⟩, hO.selT (Ls := [Blk b41 [.slice A38 y36.1.f0.length c39, .int .i64 y36.1.f1, .int .i64 y36.1.f2, .int .i64 y36.1.f3, .int .i64 y36.1.f4] 28, Row (Kd.int .i64) 3 (.slice A38 y36.1.f0.length c39) y36.1.f0]) [2, 3] 4 rfl rfl rfl⟩
    ·
     have hk113 : (!decide (y36.2 = y42.2)) = false := (by simpa using hg111)
     refine TL.cons (TO.val (Wt.yes rfl rfl rfl hk113) rfl rfl (Val.loadsB 2 (cs := [.slice A38 y36.1.f0.length c39, .int .i64 y36.1.f1, .int .i64 y36.1.f2, .int .i64 y36.1.f3, .int .i64 y36.1.f4]) agg28 fsz28 rfl rfl rfl rfl) ?_)
     refine TL.cons (TO.val (Wt.yes rfl rfl rfl hk113) rfl rfl (Val.loadsB 0 (cs := [.slice A44 y42.1.f0.length c45, .int .i64 y42.1.f1, .int .i64 y42.1.f2, .int .i64 y42.1.f3, .int .i64 y42.1.f4]) agg28 fsz28 rfl rfl rfl rfl) ?_)
     refine TK.sel (Ls := [Row (Kd.int .i64) 3 (.slice A38 y36.1.f0.length c39) y36.1.f0, Blk b47 [.slice A44 y42.1.f0.length c45, .int .i64 y42.1.f1, .int .i64 y42.1.f2, .int .i64 y42.1.f3, .int .i64 y42.1.f4] 28, Row (Kd.int .i64) 3 (.slice A44 y42.1.f0.length c45) y42.1.f0, Blk b41 [.slice A38 y36.1.f0.length c39, .int .i64 y36.1.f1, .int .i64 y36.1.f2, .int .i64 y36.1.f3, .int .i64 y36.1.f4] 28]) [3, 0, 1, 2] 4 rfl rfl rfl ?_
     refine TK.share (fun G114 e115 hs116 hb117 => ?_)
     have rd118 : Rd G114 (Kd.int .i64) A38 y36.1.f0 := Rd.row hs116
     have le119 : y36.1.f0.length ≤ c39 := Row.le hs116
     refine TK.sel (Ls := [Row (Kd.int .i64) 3 (.slice A44 y42.1.f0.length c45) y42.1.f0, Blk b47 [.slice A44 y42.1.f0.length c45, .int .i64 y42.1.f1, .int .i64 y42.1.f2, .int .i64 y42.1.f3, .int .i64 y42.1.f4] 28, Blk b41 [.slice A38 y36.1.f0.length c39, .int .i64 y36.1.f1, .int .i64 y36.1.f2, .int .i64 y36.1.f3, .int .i64 y36.1.f4] 28]) [1, 0, 2] 3 rfl rfl rfl ?_
     refine TK.share (fun G120 e121 hs122 hb123 => ?_)
     have rd124 : Rd G120 (Kd.int .i64) A44 y42.1.f0 := Rd.row hs122
     have le125 : y42.1.f0.length ≤ c45 := Row.le hs122
     obtain ⟨y126, hy127, h⟩ := bind_no h
     refine TL.cons (TL.callV (Lin := []) (args := [.agg #[.slice A38 y36.1.f0.length c39, .int .i64 y36.1.f1, .int .i64 y36.1.f2, .int .i64 y36.1.f3, .int .i64 y36.1.f4], .agg #[.slice A44 y42.1.f0.length c45, .int .i64 y42.1.f1, .int .i64 y42.1.f2, .int .i64 y42.1.f3, .int .i64 y42.1.f4]]) (Wt.yes rfl rfl rfl hk113) rfl rfl hbd17 rfl rfl (trace_Same.calls (a0 := y36.1) (a1 := y42.1) (rd118.up e121) le119 rd124 le125 hy127) rfl ?_)
     rintro _ _ _ _ ⟨rfl, rfl, rfl⟩
     refine TL.cons (TO.val (Wt.yes rfl rfl rfl hk113) rfl rfl (Val.not_ rfl) ?_)
     refine TL.cons (TO.val rfl rfl rfl (Val.pickN rfl hk113 rfl) ?_)
     refine TL.cons (TO.val rfl rfl rfl (Val.move rfl) ?_)
     refine TK.split (p := (!y126) = true) h (fun hg128 h => ?_) (fun hg128 h => ?_)
     ·
      have hk129 : (!y126) = true := hg128
      refine TL.cons (TL.not (Wt.no rfl rfl rfl hk129) rfl ?_)
      refine TL.cons (TL.not (Wt.no rfl rfl rfl hk129) rfl ?_)
      refine TL.cons (TL.not (Wt.no rfl rfl rfl hk129) rfl ?_)
      refine TL.cons (TL.not (Wt.no rfl rfl rfl hk129) rfl ?_)
      refine TL.cons (TO.val rfl rfl rfl (Val.pickY rfl hk129 rfl) ?_)
      refine TL.cons (TO.val rfl rfl rfl (Val.move rfl) ?_)
      refine TL.cons (TL.not (Wt.no rfl rfl rfl rfl) rfl ?_)
      refine TL.cons (TL.not (Wt.no rfl rfl rfl rfl) rfl ?_)
      refine TL.cons (TL.not (Wt.no rfl rfl rfl rfl) rfl ?_)
      refine TL.cons (TL.not (Wt.no rfl rfl rfl rfl) rfl ?_)
      refine TL.cons (TO.val rfl rfl rfl (Val.pickY rfl rfl rfl) ?_)
      refine TL.nil ?_
      refine TQ.back hb123 ?_
      refine TQ.back hb117 ?_
      exact fun a W hF hO => ⟨true, G30, h, e31, hF.sub ⟨rfl, rfl, rfl, rfl, rfl, trivial⟩, hO.selT (Ls := [Blk b41 [.slice A38 y36.1.f0.length c39, .int .i64 y36.1.f1, .int .i64 y36.1.f2, .int .i64 y36.1.f3, .int .i64 y36.1.f4] 28, Row (Kd.int .i64) 3 (.slice A38 y36.1.f0.length c39) y36.1.f0]) [3, 0] 4 rfl rfl rfl⟩
     ·
      have hk130 : (!y126) = false := (by simpa using hg128)
      refine TL.cons (TO.val (Wt.yes rfl rfl rfl hk130) rfl rfl (Val.loadsB 1 (cs := [.slice A38 y36.1.f0.length c39, .int .i64 y36.1.f1, .int .i64 y36.1.f2, .int .i64 y36.1.f3, .int .i64 y36.1.f4]) agg28 fsz28 rfl rfl rfl rfl) ?_)
      refine TL.cons (TO.val (Wt.yes rfl rfl rfl hk130) rfl rfl (Val.loadsB 0 (cs := [.slice A44 y42.1.f0.length c45, .int .i64 y42.1.f1, .int .i64 y42.1.f2, .int .i64 y42.1.f3, .int .i64 y42.1.f4]) agg28 fsz28 rfl rfl rfl rfl) ?_)
      obtain ⟨y131, hy132, h⟩ := bind_no h
      refine TL.cons (TL.callV (Lin := []) (args := [.agg #[.slice A38 y36.1.f0.length c39, .int .i64 y36.1.f1, .int .i64 y36.1.f2, .int .i64 y36.1.f3, .int .i64 y36.1.f4], .agg #[.slice A44 y42.1.f0.length c45, .int .i64 y42.1.f1, .int .i64 y42.1.f2, .int .i64 y42.1.f3, .int .i64 y42.1.f4]]) (Wt.yes rfl rfl rfl hk130) rfl rfl hbd15 rfl rfl (trace_Prefix.calls (a0 := y36.1) (a1 := y42.1) (rd118.up e121) le119 rd124 le125 hy132) rfl ?_)
      rintro _ _ _ _ ⟨rfl, rfl, rfl⟩
      refine TL.cons (TO.val (Wt.yes rfl rfl rfl hk130) rfl rfl (Val.not_ rfl) ?_)
      refine TL.cons (TO.val rfl rfl rfl (Val.pickN rfl hk130 rfl) ?_)
      refine TL.cons (TO.val rfl rfl rfl (Val.move rfl) ?_)
      refine TK.split (p := (!y131) = true) h (fun hg133 h => ?_) (fun hg133 h => ?_)
      ·
       have hk134 : (!y131) = true := hg133
       refine TL.cons (TL.not (Wt.no rfl rfl rfl hk134) rfl ?_)
       refine TL.cons (TL.not (Wt.no rfl rfl rfl hk134) rfl ?_)
       refine TL.cons (TL.not (Wt.no rfl rfl rfl hk134) rfl ?_)
       refine TL.cons (TL.not (Wt.no rfl rfl rfl hk134) rfl ?_)
       refine TL.cons (TO.val rfl rfl rfl (Val.pickY rfl hk134 rfl) ?_)
       refine TL.nil ?_
       refine TQ.back hb123 ?_
       refine TQ.back hb117 ?_
       exact fun a W hF hO => ⟨true, G30, h, e31, hF.sub ⟨rfl, rfl, rfl, rfl, rfl, trivial⟩, hO.selT (Ls := [Blk b41 [.slice A38 y36.1.f0.length c39, .int .i64 y36.1.f1, .int .i64 y36.1.f2, .int .i64 y36.1.f3, .int .i64 y36.1.f4] 28, Row (Kd.int .i64) 3 (.slice A38 y36.1.f0.length c39) y36.1.f0]) [3, 0] 4 rfl rfl rfl⟩
      ·
       have hk135 : (!y131) = false := (by simpa using hg133)
       refine TL.cons (TO.val (Wt.yes rfl rfl rfl hk135) rfl rfl (Val.loadsB 0 (cs := [.slice A44 y42.1.f0.length c45, .int .i64 y42.1.f1, .int .i64 y42.1.f2, .int .i64 y42.1.f3, .int .i64 y42.1.f4]) agg28 fsz28 rfl rfl rfl rfl) ?_)
       refine TL.cons (TO.val (Wt.yes rfl rfl rfl hk135) rfl rfl (Val.loadsB 1 (cs := [.slice A38 y36.1.f0.length c39, .int .i64 y36.1.f1, .int .i64 y36.1.f2, .int .i64 y36.1.f3, .int .i64 y36.1.f4]) agg28 fsz28 rfl rfl rfl rfl) ?_)
       obtain ⟨y136, hy137, h⟩ := bind_no h
       refine TL.cons (TL.callV (Lin := []) (args := [.agg #[.slice A44 y42.1.f0.length c45, .int .i64 y42.1.f1, .int .i64 y42.1.f2, .int .i64 y42.1.f3, .int .i64 y42.1.f4], .agg #[.slice A38 y36.1.f0.length c39, .int .i64 y36.1.f1, .int .i64 y36.1.f2, .int .i64 y36.1.f3, .int .i64 y36.1.f4]]) (Wt.yes rfl rfl rfl hk135) rfl rfl hbd15 rfl rfl (trace_Prefix.calls (a0 := y42.1) (a1 := y36.1) rd124 le125 (rd118.up e121) le119 hy137) rfl ?_)
       rintro _ _ _ _ ⟨rfl, rfl, rfl⟩
       refine TL.cons (TO.val (Wt.yes rfl rfl rfl hk135) rfl rfl (Val.not_ rfl) ?_)
       refine TL.cons (TO.val rfl rfl rfl (Val.pickN rfl hk135 rfl) ?_)
       refine TL.nil ?_
       refine TQ.back hb123 ?_
       refine TQ.back hb117 ?_
       exact fun a W hF hO => ⟨(!y136), G30, h, e31, hF.sub ⟨rfl, rfl, rfl, rfl, rfl, trivial⟩, hO.selT (Ls := [Blk b41 [.slice A38 y36.1.f0.length c39, .int .i64 y36.1.f1, .int .i64 y36.1.f2, .int .i64 y36.1.f3, .int .i64 y36.1.f4] 28, Row (Kd.int .i64) 3 (.slice A38 y36.1.f0.length c39) y36.1.f0]) [3, 0] 4 rfl rfl rfl⟩
 ·
  refine TC.region ?_
  refine TL.cons (TO.val rfl rfl rfl (Val.move rfl) ?_)
  refine TL.cons (TO.val rfl rfl rfl (Val.not_ rfl) ?_)
  refine TL.cons (TO.val rfl rfl rfl (Val.move rfl) ?_)
  refine TK.split (p := (!y13) = true) h (fun hg138 h => ?_) (fun hg138 h => ?_)
  ·
   have hk139 : (!y13) = true := hg138
   refine TL.cons (TL.not (Wt.no rfl rfl rfl hk139) rfl ?_)
   refine TL.cons (TL.not (Wt.no rfl rfl rfl hk139) rfl ?_)
   refine TL.cons (TO.val rfl rfl rfl (Val.pickY rfl hk139 rfl) ?_)
   refine TL.cons (TO.val rfl rfl rfl (Val.move rfl) ?_)
   refine TL.cons (TL.not (Wt.no rfl rfl rfl rfl) rfl ?_)
   refine TL.cons (TL.not (Wt.no rfl rfl rfl rfl) rfl ?_)
   refine TL.cons (TO.val rfl rfl rfl (Val.pickY rfl rfl rfl) ?_)
   refine TL.cons (TO.val rfl rfl rfl (Val.move rfl) ?_)
   refine TL.cons (TL.not (Wt.no rfl rfl rfl rfl) rfl ?_)
   refine TL.cons (TL.not (Wt.no rfl rfl rfl rfl) rfl ?_)
   refine TL.cons (TL.not (Wt.no rfl rfl rfl rfl) rfl ?_)
   refine TL.cons (TO.val rfl rfl rfl (Val.pickY rfl rfl rfl) ?_)
   refine TL.cons (TO.val rfl rfl rfl (Val.move rfl) ?_)
   refine TL.cons (TL.not (Wt.no rfl rfl rfl rfl) rfl ?_)
   refine TL.cons (TL.not (Wt.no rfl rfl rfl rfl) rfl ?_)
   refine TL.cons (TO.val rfl rfl rfl (Val.pickY rfl rfl rfl) ?_)
   refine TL.cons (TO.val rfl rfl rfl (Val.move rfl) ?_)
   refine TL.cons (TL.not (Wt.no rfl rfl rfl rfl) rfl ?_)
   refine TL.cons (TL.not (Wt.no rfl rfl rfl rfl) rfl ?_)
   refine TL.cons (TO.val rfl rfl rfl (Val.pickY rfl rfl rfl) ?_)
   refine TL.nil ?_
   exact fun a W hF hO => ⟨true, G11, h, e12, hF.sub ⟨rfl, rfl, rfl, rfl, rfl, rfl, trivial⟩, hO.selT (Ls := []) [] 0 rfl rfl rfl⟩
  ·
   have hk140 : (!y13) = false := (by simpa using hg138)
   refine TL.cons (TO.val (Wt.yes rfl rfl rfl hk140) rfl rfl (Val.move rfl) ?_)
   refine TL.cons (TO.val (Wt.yes rfl rfl rfl hk140) rfl rfl (Val.cmp rfl rfl run_lss) ?_)
   refine TL.cons (TO.val rfl rfl rfl (Val.pickN rfl hk140 rfl) ?_)
   refine TL.cons (TO.val rfl rfl rfl (Val.move rfl) ?_)
   refine TK.split (p := a1 < 1) h (fun hg141 h => ?_) (fun hg141 h => ?_)
   ·
    have hk142 : decide (a1 < 1) = true := decide_eq_true hg141
    refine TL.cons (TL.not (Wt.no rfl rfl rfl hk142) rfl ?_)
    refine TL.cons (TL.not (Wt.no rfl rfl rfl hk142) rfl ?_)
    refine TL.cons (TO.val rfl rfl rfl (Val.pickY rfl hk142 rfl) ?_)
    refine TL.cons (TO.val rfl rfl rfl (Val.move rfl) ?_)
    refine TL.cons (TL.not (Wt.no rfl rfl rfl rfl) rfl ?_)
    refine TL.cons (TL.not (Wt.no rfl rfl rfl rfl) rfl ?_)
    refine TL.cons (TL.not (Wt.no rfl rfl rfl rfl) rfl ?_)
    refine TL.cons (TO.val rfl rfl rfl (Val.pickY rfl rfl rfl) ?_)
    refine TL.cons (TO.val rfl rfl rfl (Val.move rfl) ?_)
    refine TL.cons (TL.not (Wt.no rfl rfl rfl rfl) rfl ?_)
    refine TL.cons (TL.not (Wt.no rfl rfl rfl rfl) rfl ?_)
    refine TL.cons (TO.val rfl rfl rfl (Val.pickY rfl rfl rfl) ?_)
    refine TL.cons (TO.val rfl rfl rfl (Val.move rfl) ?_)
    refine TL.cons (TL.not (Wt.no rfl rfl rfl rfl) rfl ?_)
    refine TL.cons (TL.not (Wt.no rfl rfl rfl rfl) rfl ?_)
    refine TL.cons (TO.val rfl rfl rfl (Val.pickY rfl rfl rfl) ?_)
    refine TL.nil ?_
    exact fun a W hF hO => ⟨true, G11, h, e12, hF.sub ⟨rfl, rfl, rfl, rfl, rfl, rfl, trivial⟩, hO.selT (Ls := []) [] 0 rfl rfl rfl⟩
   ·
    have hk143 : decide (a1 < 1) = false := decide_eq_false hg141
    refine TL.cons (TO.val (Wt.yes rfl rfl rfl hk143) rfl rfl (Val.move rfl) ?_)
    refine TL.cons (TO.val (Wt.yes rfl rfl rfl hk143) rfl rfl (Val.cmp rfl rfl run_gtr) ?_)
    refine TL.cons (TO.val rfl rfl rfl (Val.pickN rfl hk143 rfl) ?_)
    refine TL.cons (TO.val rfl rfl rfl (Val.move rfl) ?_)
    refine TK.split (p := 4096 < a1) h (fun hg144 h => ?_) (fun hg144 h => ?_)
    ·
     have hk145 : decide (4096 < a1) = true := decide_eq_true hg144
     refine TL.cons (TL.not (Wt.no rfl rfl rfl hk145) rfl ?_)
     refine TL.cons (TL.not (Wt.no rfl rfl rfl hk145) rfl ?_)
     refine TL.cons (TL.not (Wt.no rfl rfl rfl hk145) rfl ?_)
     refine TL.cons (TO.val rfl rfl rfl (Val.pickY rfl hk145 rfl) ?_)
     refine TL.cons (TO.val rfl rfl rfl (Val.move rfl) ?_)
     refine TL.cons (TL.not (Wt.no rfl rfl rfl rfl) rfl ?_)
     refine TL.cons (TL.not (Wt.no rfl rfl rfl rfl) rfl ?_)
     refine TL.cons (TO.val rfl rfl rfl (Val.pickY rfl rfl rfl) ?_)
     refine TL.cons (TO.val rfl rfl rfl (Val.move rfl) ?_)
     refine TL.cons (TL.not (Wt.no rfl rfl rfl rfl) rfl ?_)
     refine TL.cons (TL.not (Wt.no rfl rfl rfl rfl) rfl ?_)
     refine TL.cons (TO.val rfl rfl rfl (Val.pickY rfl rfl rfl) ?_)
     refine TL.nil ?_
     exact fun a W hF hO => ⟨true, G11, h, e12, hF.sub ⟨rfl, rfl, rfl, rfl, rfl, rfl, trivial⟩, hO.selT (Ls := []) [] 0 rfl rfl rfl⟩
    ·
     have hk146 : decide (4096 < a1) = false := decide_eq_false hg144
     refine TL.cons (TO.val (Wt.yes rfl rfl rfl hk146) rfl rfl (Val.move rfl) ?_)
     refine TL.cons (TO.val (Wt.yes rfl rfl rfl hk146) rfl rfl (Val.len Try.underlying23 rfl) ?_)
     refine TL.cons (TO.val (Wt.yes rfl rfl rfl hk146) rfl rfl (Val.cmp rfl rfl run_gtr) ?_)
     refine TL.cons (TO.val rfl rfl rfl (Val.pickN rfl hk146 rfl) ?_)
     refine TL.cons (TO.val rfl rfl rfl (Val.move rfl) ?_)
     refine TK.split (p := 100 < (a2.length : Int)) h (fun hg147 h => ?_) (fun hg147 h => ?_)
     ·
      have hk148 : decide (100 < (a2.length : Int)) = true := decide_eq_true hg147
      refine TL.cons (TL.not (Wt.no rfl rfl rfl hk148) rfl ?_)
      refine TL.cons (TL.not (Wt.no rfl rfl rfl hk148) rfl ?_)
      refine TL.cons (TO.val rfl rfl rfl (Val.pickY rfl hk148 rfl) ?_)
      refine TL.cons (TO.val rfl rfl rfl (Val.move rfl) ?_)
      refine TL.cons (TL.not (Wt.no rfl rfl rfl rfl) rfl ?_)
      refine TL.cons (TL.not (Wt.no rfl rfl rfl rfl) rfl ?_)
      refine TL.cons (TO.val rfl rfl rfl (Val.pickY rfl rfl rfl) ?_)
      refine TL.nil ?_
      exact fun a W hF hO => ⟨true, G11, h, e12, hF.sub ⟨rfl, rfl, rfl, rfl, rfl, rfl, trivial⟩, hO.selT (Ls := []) [] 0 rfl rfl rfl⟩
     ·
      have hk149 : decide (100 < (a2.length : Int)) = false := decide_eq_false hg147
      refine TL.cons (TO.val (Wt.yes rfl rfl rfl hk149) rfl rfl (Val.move rfl) ?_)
      refine TL.cons (TO.val (Wt.yes rfl rfl rfl hk149) rfl rfl (Val.cmp rfl rfl run_lss) ?_)
      refine TL.cons (TO.val rfl rfl rfl (Val.pickN rfl hk149 rfl) ?_)
      refine TL.cons (TO.val rfl rfl rfl (Val.move rfl) ?_)
      refine TK.split (p := a3 < 0) h (fun hg150 h => ?_) (fun hg150 h => ?_)
      ·
       have hk151 : decide (a3 < 0) = true := decide_eq_true hg150
       refine TL.cons (TL.not (Wt.no rfl rfl rfl hk151) rfl ?_)
       refine TL.cons (TL.not (Wt.no rfl rfl rfl hk151) rfl ?_)
       refine TL.cons (TO.val rfl rfl rfl (Val.pickY rfl hk151 rfl) ?_)
       refine TL.nil ?_
       exact fun a W hF hO => ⟨true, G11, h, e12, hF.sub ⟨rfl, rfl, rfl, rfl, rfl, rfl, trivial⟩, hO.selT (Ls := []) [] 0 rfl rfl rfl⟩
      ·
       have hk152 : decide (a3 < 0) = false := decide_eq_false hg150
       refine TL.cons (TO.val (Wt.yes rfl rfl rfl hk152) rfl rfl (Val.move rfl) ?_)
       refine TL.cons (TO.val (Wt.yes rfl rfl rfl hk152) rfl rfl (Val.cmp rfl rfl run_gtr) ?_)
       refine TL.cons (TO.val rfl rfl rfl (Val.pickN rfl hk152 rfl) ?_)
       refine TL.nil ?_
       exact fun a W hF hO => ⟨decide (3000 < a3), G11, h, e12, hF.sub ⟨rfl, rfl, rfl, rfl, rfl, rfl, trivial⟩, hO.selT (Ls := []) [] 0 rfl rfl rfl⟩
end Go.Proofs.Ytfmocegnpmomnaa.Sy
set_option linter.unusedVariables false
set_option linter.unusedSimpArgs false
namespace Go.Proofs.Ytfmocegnpmomnaa.Sy
open Go Go.RowKit Go.Proofs.YtfmocegnpmomnaaW.PrintWords Go.Proofs.Ytfmocegnpmomnaa.SyO
/-- What a runner holds: cells, the heap's end, input, fuel, depth, what was printed, counts. -/
structure Ts where
  m : List Int
  h : Int
  i : List Int
  f : Int
  d : Int
  o : List Int
  ld : Int
  st : Int
  c : Int
abbrev Cf (n : Nat) (l : List S45) (fl : Int) (s : Ts) (a : S45) (us : List Int) := (trace_runner_call.fix n).1 l s.m s.h fl s.i s.f s.d s.o 0 s.ld s.st s.c a us
abbrev Bf (n : Nat) (l : List S45) (fl : Int) (s : Ts) (b : S42) (r : List Int) := (trace_runner_call.fix n).2.1 l s.m s.h fl s.i s.f s.d s.o 0 s.ld s.st s.c b r
abbrev Vf (n : Nat) (l : List S45) (fl : Int) (s : Ts) (o : S37) (r : List Int) := (trace_runner_call.fix n).2.2 l s.m s.h fl s.i s.f s.d s.o 0 s.ld s.st s.c o r
abbrev tv (v e : Int) (s : Ts) : Int × Int × List Int × Int × List Int × Int × Int × List Int × Int × Int × Int := (v, e, s.m, s.h, s.i, s.f, s.d, s.o, s.ld, s.st, s.c)
abbrev tb (e : Int) (s : Ts) (r : List Int) : Int × List Int × Int × List Int × Int × Int × List Int × Int × Int × Int × List Int := (e, s.m, s.h, s.i, s.f, s.d, s.o, s.ld, s.st, s.c, r)
/-- What holds at all times. -/
structure Iv (B fl : Int) (s : Ts) : Prop where
  f0 : 0 ≤ s.f
  d0 : 0 ≤ s.d
  d1 : s.d ≤ 1000
  ml : (s.m.length : Int) = fl
  h1 : 1 ≤ s.h
  h2 : s.h ≤ fl
  fl1 : fl ≤ 1048576
  c : s.c = s.h - 1
  ld0 : 0 ≤ s.ld
  st0 : 0 ≤ s.st
  pot : (s.o.length : Int) + s.ld + s.st + s.f ≤ B
/-- How a run goes on. -/
structure Gs (k : Int) (s s' : Ts) : Prop where
  d : s'.d = s.d
  f : s'.f ≤ s.f
  o : ∃ t, s'.o = s.o ++ t
  ld : s.ld ≤ s'.ld
  st : s.st ≤ s'.st
  pot : (s'.o.length : Int) + s'.ld + s'.st + s'.f ≤ (s.o.length : Int) + s.ld + s.st + s.f + k
theorem Gs.refl (s : Ts) {k : Int} (h : 0 ≤ k) : Gs k s s := ⟨rfl, Int.le_refl _, ⟨[], by simp⟩, Int.le_refl _, Int.le_refl _, by omega⟩
theorem Gs.trans {k k' : Int} {a b c : Ts} (h : Gs k a b) (g : Gs k' b c) : Gs (k + k') a c := by
  obtain ⟨t, ht⟩ := h.o
  obtain ⟨u, hu⟩ := g.o
  exact ⟨g.d.trans h.d, Int.le_trans g.f h.f, ⟨t ++ u, by rw [hu, ht, List.append_assoc]⟩, Int.le_trans h.ld g.ld, Int.le_trans h.st g.st, by have := h.pot; have := g.pot; omega⟩
theorem at_mem {α : Type} {l : List α} {i : Int} {y : α} (h : at? l i = some y) : y ∈ l := by
  unfold at? at h
  split at h
  · exact List.mem_of_getElem? h
  · cases h
theorem at_ok {α : Type} {r : List α} {i : Int} (h0 : 0 ≤ i) (h1 : i < (r.length : Int)) : ∃ y, at? r i = some y := by
  unfold at?
  have : i.toNat < r.length := by omega
  exact ⟨r[i.toNat], by rw [if_pos h0, List.getElem?_eq_getElem this]⟩
/-- What an operation names. -/
structure Oc (l : List S45) (o : S37) : Prop where
  call : o.f0 = 7 → ∃ g, at? l o.f4 = some g ∧ (o.f5.length : Int) = g.f0
  new : o.f0 = 6 → 0 ≤ o.f4 ∧ o.f4 ≤ 1048576
structure Wp (l : List S45) : Prop where
  fn : ∀ t ∈ l, ∃ z : Nat, Fz z t
  op : ∀ t ∈ l, ∀ y ∈ t.f1, y.f0.length ≤ 250 ∧ ∀ o ∈ y.f0, Oc l o
def CallP (l : List S45) (fl : Int) (n : Nat) : Prop := ∀ B s t us, Iv B fl s → B ≤ 90000 → t ∈ l → (us.length : Int) = t.f0 → 3 * (1000 - s.d) + 1 ≤ (n : Int) → ∃ v e s', Cf n l fl s t us = some (tv v e s') ∧ Iv B fl s' ∧ Gs 0 s s'
def BlockP (l : List S45) (fl : Int) (n : Nat) : Prop := ∀ B s (z : Nat) b r, Iv B fl s → B ≤ 90000 → b.f0.length ≤ 250 → (∀ o ∈ b.f0, Oz z o ∧ Oc l o) → r.length = z + 1 → 3 * (1000 - s.d) + 3 ≤ (n : Int) → ∃ e s' r', Bf n l fl s b r = some (tb e s' r') ∧ Iv B fl s' ∧ Gs 0 s s' ∧ r'.length = z + 1 ∧ (e = 0 → s'.f < s.f)
def ValueP (l : List S45) (fl : Int) (n : Nat) : Prop := ∀ B s (z : Nat) o r, Iv B fl s → B ≤ 90000 → Oz z o → Oc l o → r.length = z + 1 → 3 * (1000 - s.d) + 2 ≤ (n : Int) → ∃ v e s', Vf n l fl s o r = some (tv v e s') ∧ Iv (B + 1) fl s' ∧ Gs 1 s s'
theorem there_f {m : List Int} {h fl a : Int} (hm : (m.length : Int) = fl) (h2 : h ≤ fl) : ∃ b, memory_Memory_there.f m h fl a = some b ∧ (b = true → 1 ≤ a ∧ a < h) := by
  unfold memory_Memory_there.f
  by_cases h1 : 1 ≤ a
  · rw [if_pos h1]
    by_cases h3 : a < h
    · rw [if_pos h3]; exact ⟨true, rfl, fun _ => ⟨h1, h3⟩⟩
    · rw [if_neg h3]
      by_cases h4 : fl ≤ a
      · rw [if_pos h4]; exact ⟨_, rfl, fun hb => by have := of_decide_eq_true hb; omega⟩
      · rw [if_neg h4]; exact ⟨false, rfl, fun hb => by cases hb⟩
  · rw [if_neg h1]
    by_cases h4 : fl ≤ a
    · rw [if_pos h4]; exact ⟨_, rfl, fun hb => by have := of_decide_eq_true hb; omega⟩
    · rw [if_neg h4]; exact ⟨false, rfl, fun hb => by cases hb⟩
theorem Iv.up {B fl : Int} {s : Ts} (h : Iv B fl s) : Iv (B + 1) fl s := { h with pot := by have := h.pot; omega }
theorem load_f {B fl : Int} {s : Ts} (h : Iv B fl s) (a : Int) : ∃ v e, memory_Memory_Load.f s.m s.h fl a = some (v, e) := by
  obtain ⟨b, h1, h2⟩ := there_f (a := a) h.ml h.h2
  unfold memory_Memory_Load.f
  rw [h1, Option.bind_some]
  cases b with
  | false => exact ⟨0, 7, by simp⟩
  | true =>
    obtain ⟨y, hy⟩ := at_ok (r := s.m) (i := a) (by have := h2 rfl; omega) (by have := h2 rfl; have := h.ml; have := h.h2; omega)
    exact ⟨y, 0, by simp [hy]⟩
theorem store_f {B fl : Int} {s : Ts} (h : Iv B fl s) (a v : Int) : ∃ e m', memory_Memory_Store.f s.m s.h fl a v = some (e, m') ∧ m'.length = s.m.length := by
  obtain ⟨b, h1, h2⟩ := there_f (a := a) h.ml h.h2
  unfold memory_Memory_Store.f
  rw [h1, Option.bind_some]
  cases b with
  | false => exact ⟨7, s.m, by simp, rfl⟩
  | true =>
    obtain ⟨y, hy⟩ := at_ok (r := s.m) (i := a) (by have := h2 rfl; omega) (by have := h2 rfl; have := h.ml; have := h.h2; omega)
    exact ⟨0, s.m.set a.toNat v, by simp [hy], by simp⟩
theorem clr_len {xs : List Int} {l h : Int} (h0 : 0 ≤ l) (h1 : l ≤ h) (h2 : h ≤ (xs.length : Int)) : (clrL xs l h).length = xs.length := by
  unfold clrL; simp; omega
theorem alloc_f {B fl : Int} {s : Ts} (h : Iv B fl s) {k : Int} (h0 : 0 ≤ k) (h1 : k ≤ 1048576) : ∃ v e m' h', memory_Memory_Alloc.f s.m s.h fl k = some (v, e, m', h') ∧ m'.length = s.m.length ∧ (e = 0 → h' = s.h + k) ∧ (¬ e = 0 → h' = s.h) ∧ h' ≤ fl := by
  have a1 := h.h1; have a2 := h.h2; have a3 := h.fl1; have a4 := h.ml
  unfold memory_Memory_Alloc.f
  rw [if_neg (by omega), w64 (n := fl - s.h) (by omega) (by omega), w64 (n := s.h + k) (by omega) (by omega)]
  by_cases hk : fl - s.h < k
  · rw [if_pos hk]; exact ⟨0, 9, s.m, s.h, rfl, rfl, fun h => absurd h (by decide), fun _ => rfl, a2⟩
  · rw [if_neg hk, if_pos (by omega), Option.bind_some]
    exact ⟨s.h, 0, _, _, rfl, clr_len (by omega) (by omega) (by omega), fun _ => rfl, fun h => absurd rfl h, by omega⟩
theorem value_step {l : List S45} {fl : Int} {n : Nat} (hc : CallP l fl n) (hl : l.length ≤ 1000) : ValueP l fl (n + 1) := by
  intro B s z o r hI hB ho hoc hr hn
  have hro := ho.ro
  have hlo : (r.length : Int) = z + 1 := by omega
  have i1 := hI.f0; have i2 := hI.ld0; have i3 := hI.st0; have i4 := hI.pot; have i5 := hI.c; have i6 := hI.h1; have i7 := hI.h2; have i8 := hI.fl1
  show ∃ v e s', trace_runner_value.g (trace_runner_call.fix n).1 (trace_runner_call.fix n).2.1 (trace_runner_call.fix n).2.2 l s.m s.h fl s.i s.f s.d s.o 0 s.ld s.st s.c o r = some (tv v e s') ∧ Iv (B + 1) fl s' ∧ Gs 1 s s'
  unfold trace_runner_value.g
  unfold Ro at hro
  rcases hro with h | h | h | h | h | h | h | h | h
  · rw [if_pos h.1]; exact ⟨_, _, s, rfl, hI.up, Gs.refl s (by omega)⟩
  · have g1 := ho.a (.inl h.1); have g2 := ho.b (.inl h.1)
    obtain ⟨y, hy⟩ := at_ok (r := r) (i := o.f2) (by have := h.2.2.1.1; omega) (by omega)
    obtain ⟨w, hw⟩ := at_ok (r := r) (i := o.f3) (by have := h.2.2.2.1.1; omega) (by omega)
    obtain ⟨k, e, hk⟩ := do_f o.f4 y w
    rw [if_neg (by omega), if_neg (by omega), if_pos h.1, hy, Option.bind_some, hw, Option.bind_some, hk, Option.bind_some]
    exact ⟨_, _, s, rfl, hI.up, Gs.refl s (by omega)⟩
  · have g1 := ho.a (.inr (.inl h.1))
    obtain ⟨y, hy⟩ := at_ok (r := r) (i := o.f2) (by have := h.2.2.1.1; omega) (by omega)
    rw [if_neg (by omega), if_pos h.1, hy, Option.bind_some]
    exact ⟨_, _, s, rfl, hI.up, Gs.refl s (by omega)⟩
  · have g1 := ho.a (.inr (.inr (.inl h.1)))
    obtain ⟨y, hy⟩ := at_ok (r := r) (i := o.f2) (by have := h.2.2.1.1; omega) (by omega)
    obtain ⟨v, e, hv⟩ := load_f hI (IntKind.i64.wrap (y + o.f4))
    rw [if_neg (by omega), if_neg (by omega), if_neg (by omega), if_neg (by omega), if_neg (by omega), if_neg (by omega)]
    unfold trace_runner_cells.f
    rw [if_pos h.1, hy, Option.bind_some, hv, Option.bind_some]
    simp only [jn]
    by_cases he : e = 0
    · rw [if_pos he, w64 (n := s.ld + 1) (by omega) (by omega), Option.bind_some]
      exact ⟨_, _, { s with ld := s.ld + 1 }, rfl, { hI with ld0 := by show 0 ≤ s.ld + 1; omega, pot := by show (s.o.length : Int) + (s.ld + 1) + s.st + s.f ≤ B + 1; omega }, ⟨rfl, Int.le_refl _, ⟨[], by simp⟩, by show s.ld ≤ s.ld + 1; omega, Int.le_refl _, by show (s.o.length : Int) + (s.ld + 1) + s.st + s.f ≤ _; omega⟩⟩
    · rw [if_neg he, Option.bind_some]
      exact ⟨_, _, s, rfl, hI.up, Gs.refl s (by omega)⟩
  · have g1 := ho.a (.inr (.inr (.inr (.inl h.1)))); have g2 := ho.b (.inr h.1)
    obtain ⟨y, hy⟩ := at_ok (r := r) (i := o.f2) (by have := h.2.2.1.1; omega) (by omega)
    obtain ⟨w, hw⟩ := at_ok (r := r) (i := o.f3) (by have := h.2.2.2.1.1; omega) (by omega)
    obtain ⟨e, m', hv, hm⟩ := store_f hI (IntKind.i64.wrap (y + o.f4)) w
    rw [if_neg (by omega), if_neg (by omega), if_neg (by omega), if_neg (by omega), if_neg (by omega), if_neg (by omega)]
    unfold trace_runner_cells.f
    rw [if_neg (by omega), if_pos h.1, hy, Option.bind_some, hw, Option.bind_some, hv, Option.bind_some]
    simp only [jn]
    have hml : ((m'.length : Nat) : Int) = fl := by rw [hm]; exact hI.ml
    by_cases he : e = 0
    · rw [if_pos he, w64 (n := s.st + 1) (by omega) (by omega), Option.bind_some]
      exact ⟨_, _, { s with m := m', st := s.st + 1 }, rfl, { hI with ml := hml, st0 := by show 0 ≤ s.st + 1; omega, pot := by show (s.o.length : Int) + s.ld + (s.st + 1) + s.f ≤ B + 1; omega }, ⟨rfl, Int.le_refl _, ⟨[], by simp⟩, Int.le_refl _, by show s.st ≤ s.st + 1; omega, by show (s.o.length : Int) + s.ld + (s.st + 1) + s.f ≤ _; omega⟩⟩
    · rw [if_neg he, Option.bind_some]
      exact ⟨_, _, { s with m := m' }, rfl, { hI with ml := hml, pot := by show (s.o.length : Int) + s.ld + s.st + s.f ≤ B + 1; omega }, ⟨rfl, Int.le_refl _, ⟨[], by simp⟩, Int.le_refl _, Int.le_refl _, by show (s.o.length : Int) + s.ld + s.st + s.f ≤ _; omega⟩⟩
  · obtain ⟨k0, k1⟩ := hoc.new h.1
    obtain ⟨v, e, m', h', hv, hm, he0, he1, hh⟩ := alloc_f hI k0 k1
    rw [if_neg (by omega), if_neg (by omega), if_neg (by omega), if_neg (by omega), if_neg (by omega), if_neg (by omega)]
    unfold trace_runner_cells.f
    rw [if_neg (by omega), if_neg (by omega), hv, Option.bind_some]
    simp only [jn]
    have hml : ((m'.length : Nat) : Int) = fl := by rw [hm]; exact hI.ml
    by_cases he : e = 0
    · rw [if_pos he, w64 (n := s.c + o.f4) (by omega) (by omega), Option.bind_some]
      have hh' := he0 he
      exact ⟨_, _, { s with m := m', h := h', c := s.c + o.f4 }, rfl, { hI with ml := hml, h1 := by show 1 ≤ h'; omega, h2 := hh, c := by show s.c + o.f4 = h' - 1; omega, pot := by show (s.o.length : Int) + s.ld + s.st + s.f ≤ B + 1; omega }, ⟨rfl, Int.le_refl _, ⟨[], by simp⟩, Int.le_refl _, Int.le_refl _, by show (s.o.length : Int) + s.ld + s.st + s.f ≤ _; omega⟩⟩
    · rw [if_neg he, Option.bind_some]
      have hh' := he1 he
      exact ⟨_, _, { s with m := m', h := h' }, rfl, { hI with ml := hml, h1 := by show 1 ≤ h'; omega, h2 := hh, c := by show s.c = h' - 1; omega, pot := by show (s.o.length : Int) + s.ld + s.st + s.f ≤ B + 1; omega }, ⟨rfl, Int.le_refl _, ⟨[], by simp⟩, Int.le_refl _, Int.le_refl _, by show (s.o.length : Int) + s.ld + s.st + s.f ≤ _; omega⟩⟩
  · obtain ⟨g, hg1, hg2⟩ := hoc.call h.1
    have ha5 := ho.args
    have hloop : ∃ us : List Int, trace_runner_value.l0 o r (o.f5.length + 1) (List.replicate (o.f5.length : Int).toNat (0 : Int)) 0 = some us ∧ us.length = o.f5.length := by
      have := loopd (xs := o.f5) (F := fun n i w => trace_runner_value.l0 o r n w i) (P := fun ys f => ∀ w : List Int, w.length = o.f5.length → ∃ us, f w = some us ∧ us.length = o.f5.length) (by omega) (fun n w hw => ⟨w, by simp [trace_runner_value.l0], hw⟩) (fun n i y ys hd hlt hat hm hw ih w hwl => by
        have hy := ho.c h.1 y hm
        have hy1 := h.2.2.2.2 y hm
        obtain ⟨u, hu⟩ := at_ok (r := r) (i := y) (by have := hy1.1; omega) (by omega)
        obtain ⟨u2, hu2⟩ := at_ok (r := w) (i := (i : Int)) (by omega) (by omega)
        obtain ⟨us, e1, e2⟩ := ih (w.set i u) (by simpa using hwl)
        refine ⟨us, ?_, e2⟩
        show trace_runner_value.l0 o r (n + 1) w i = _
        rw [trace_runner_value.l0, if_pos hlt, hat, Option.bind_some, hu, Option.bind_some, hu2, Option.bind_some, Int.toNat_natCast, hw]; exact e1) (o.f5.length + 1) (by omega)
      exact this _ (by simp)
    obtain ⟨us, ha1, ha2⟩ := hloop
    obtain ⟨v, e, s', hs1, hs2, hs3⟩ := hc B s g us hI hB (at_mem hg1) (by omega) (by omega)
    rw [if_neg (by omega), if_neg (by omega), if_neg (by omega), if_neg (by omega), if_neg (by omega), if_pos h.1, if_pos (by omega), ha1, Option.bind_some, hg1, Option.bind_some]
    have hs1' : (trace_runner_call.fix n).1 l s.m s.h fl s.i s.f s.d s.o 0 s.ld s.st s.c g us = some (tv v e s') := hs1
    rw [hs1', Option.bind_some]
    exact ⟨v, e, s', rfl, hs2.up, { hs3 with pot := by have := hs3.pot; omega }⟩
  · rw [if_neg (by omega), if_neg (by omega), if_neg (by omega), if_pos h.1]
    unfold trace_runner_read.f
    by_cases hi : (s.i.length : Int) = 0
    · rw [if_pos hi, Option.bind_some]; exact ⟨_, _, s, rfl, hI.up, Gs.refl s (by omega)⟩
    · obtain ⟨y, hy⟩ := at_ok (r := s.i) (i := 0) (by omega) (by omega)
      have hcut : ∃ u, cut? s.i (1 : Int) (s.i.length : Int) = some u := by unfold cut?; exact ⟨_, if_pos (by omega)⟩
      obtain ⟨u, hu⟩ := hcut
      rw [if_neg hi, hy, Option.bind_some, hu, Option.bind_some, Option.bind_some]
      exact ⟨_, _, { s with i := u }, rfl, { hI with pot := by show (s.o.length : Int) + s.ld + s.st + s.f ≤ B + 1; omega }, ⟨rfl, Int.le_refl _, ⟨[], by simp⟩, Int.le_refl _, Int.le_refl _, by show (s.o.length : Int) + s.ld + s.st + s.f ≤ _; omega⟩⟩
  · have g1 := ho.a (.inr (.inr (.inr (.inr h.1))))
    obtain ⟨y, hy⟩ := at_ok (r := r) (i := o.f2) (by have := h.2.2.1.1; omega) (by omega)
    rw [if_neg (by omega), if_neg (by omega), if_neg (by omega), if_neg (by omega), if_pos h.1, hy, Option.bind_some, if_pos (by omega)]
    exact ⟨_, _, { s with o := s.o ++ [y] }, rfl, { hI with pot := by show ((s.o ++ [y]).length : Int) + s.ld + s.st + s.f ≤ B + 1; simp; omega }, ⟨rfl, Int.le_refl _, ⟨[y], rfl⟩, Int.le_refl _, Int.le_refl _, by show ((s.o ++ [y]).length : Int) + s.ld + s.st + s.f ≤ _; simp; omega⟩⟩
end Go.Proofs.Ytfmocegnpmomnaa.Sy
set_option linter.unusedVariables false
set_option linter.unusedSimpArgs false
namespace Go.Proofs.Ytfmocegnpmomnaa.Sy
open Go Go.RowKit Go.Proofs.YtfmocegnpmomnaaW.PrintWords Go.Proofs.Ytfmocegnpmomnaa.SyO
theorem dst0 {o : S37} (h : Ro o) : 0 ≤ o.f1 := by
  unfold Ro at h
  rcases h with h | h | h | h | h | h | h | h | h <;> first | omega | (have := h.2.1.1; omega)
theorem pay_lo {l : List S45} {m : List Int} {h fl : Int} {i : List Int} {f d : Int} {o : List Int} {a b c e : Int} (hf : f < 1) : trace_runner_pay.f l m h fl i f d o a b c e = some (12, f) := by
  unfold trace_runner_pay.f; rw [if_pos hf]
theorem pay_hi {l : List S45} {m : List Int} {h fl : Int} {i : List Int} {f d : Int} {o : List Int} {a b c e : Int} (hf : ¬ f < 1) (h1 : f ≤ 100000) : trace_runner_pay.f l m h fl i f d o a b c e = some (0, f - 1) := by
  unfold trace_runner_pay.f; rw [if_neg hf, w64 (by omega) (by omega)]
abbrev less (s : Ts) : Ts := { s with f := s.f - 1 }
theorem Gs.less (s : Ts) : Gs (-1) s (less s) := ⟨rfl, by show s.f - 1 ≤ s.f; omega, ⟨[], by simp⟩, Int.le_refl _, Int.le_refl _, by show (s.o.length : Int) + s.ld + s.st + (s.f - 1) ≤ _; omega⟩
theorem Iv.less {B fl : Int} {s : Ts} (h : Iv B fl s) (hf : ¬ s.f < 1) : Iv (B - 1) fl (less s) := { h with f0 := by show 0 ≤ s.f - 1; omega, pot := by have := h.pot; show (s.o.length : Int) + s.ld + s.st + (s.f - 1) ≤ B - 1; omega }
theorem Iv.fB {B fl : Int} {s : Ts} (h : Iv B fl s) : s.f ≤ B := by have := h.pot; have := h.ld0; have := h.st0; omega
abbrev tr (s : Ts) (r : List Int) : List Int × Int × Int × List Int × Int × Int × Int × List Int × Int × List Int := (s.i, s.f, s.d, s.o, s.ld, s.st, s.c, s.m, s.h, r)
theorem block_loop {l : List S45} {fl : Int} {n : Nat} (hv : ValueP l fl n) {B d : Int} {z : Nat} {b : S42} (hB : B ≤ 90000) (hbl : b.f0.length ≤ 250) (hb : ∀ o ∈ b.f0, Oz z o ∧ Oc l o) (hn : 3 * (1000 - d) + 2 ≤ (n : Int)) (s : Ts) (r : List Int) (hI : Iv B fl s) (hd : s.d = d) (hr : r.length = z + 1) :
    (∃ e s' r', ¬ e = 0 ∧ trace_runner_block.l0 (trace_runner_call.fix n).2.2 l fl 0 b (b.f0.length + 1) r 0 s.i s.f s.d s.o s.ld s.st s.c s.m s.h = some (.inl (tb e s' r')) ∧ Iv B fl s' ∧ Gs 0 s s' ∧ r'.length = z + 1)
    ∨ (∃ s' r', trace_runner_block.l0 (trace_runner_call.fix n).2.2 l fl 0 b (b.f0.length + 1) r 0 s.i s.f s.d s.o s.ld s.st s.c s.m s.h = some (.inr (tr s' r')) ∧ Iv B fl s' ∧ Gs 0 s s' ∧ r'.length = z + 1) := by
  have := loopd (xs := b.f0) (F := fun N i (s : Ts) (r : List Int) => trace_runner_block.l0 (trace_runner_call.fix n).2.2 l fl 0 b N r i s.i s.f s.d s.o s.ld s.st s.c s.m s.h)
    (P := fun os f => ∀ (s : Ts) (r : List Int), Iv B fl s → s.d = d → r.length = z + 1 → (∃ e s' r', ¬ e = 0 ∧ f s r = some (.inl (tb e s' r')) ∧ Iv B fl s' ∧ Gs 0 s s' ∧ r'.length = z + 1) ∨ (∃ s' r', f s r = some (.inr (tr s' r')) ∧ Iv B fl s' ∧ Gs 0 s s' ∧ r'.length = z + 1)) (by omega)
    (fun N s r hI hd hr => .inr ⟨s, r, by simp [trace_runner_block.l0], hI, Gs.refl s (by omega), hr⟩)
    (fun N i o os hdr hlt hat hm hw ih s r hI hd hr => ?_) (b.f0.length + 1) (by omega)
  · exact this s r hI hd hr
  · show (∃ e s' r', ¬ e = 0 ∧ trace_runner_block.l0 (trace_runner_call.fix n).2.2 l fl 0 b (N + 1) r i s.i s.f s.d s.o s.ld s.st s.c s.m s.h = some (.inl (tb e s' r')) ∧ _) ∨ (∃ s' r', trace_runner_block.l0 (trace_runner_call.fix n).2.2 l fl 0 b (N + 1) r i s.i s.f s.d s.o s.ld s.st s.c s.m s.h = some (.inr (tr s' r')) ∧ _)
    rw [trace_runner_block.l0, if_pos hlt, hat, Option.bind_some]
    obtain ⟨ho, hoc⟩ := hb o hm
    by_cases hf : s.f < 1
    · rw [pay_lo hf, Option.bind_some, if_pos (show (!decide ((12 : Int) = 0)) = true by decide)]
      exact .inl ⟨12, s, r, by decide, rfl, hI, Gs.refl s (by omega), hr⟩
    · rw [pay_hi hf (by have := hI.fB; omega), Option.bind_some, if_neg (show ¬ (!decide ((0 : Int) = 0)) = true by decide)]
      obtain ⟨v, e, s', e1, e2, e3⟩ := hv (B - 1) (less s) z o r (hI.less hf) (by omega) ho hoc hr (by show 3 * (1000 - s.d) + 2 ≤ (n : Int); omega)
      have e1' : (trace_runner_call.fix n).2.2 l s.m s.h fl s.i (s.f - 1) s.d s.o 0 s.ld s.st s.c o r = some (tv v e s') := e1
      have e2' : Iv B fl s' := by have := e2; rwa [Int.sub_add_cancel] at this
      have e3' : Gs 0 s s' := (Gs.less s).trans e3
      rw [e1', Option.bind_some]
      simp only [jn]
      by_cases he : e = 0
      · rw [if_neg (by simp [he])]
        by_cases h1 : o.f1 = 0
        · rw [if_neg (by simp [h1]), hw]
          rcases ih s' r e2' (e3'.d.trans hd) hr with ⟨e, s'', r', q0, q1, q2, q3, q4⟩ | ⟨s'', r', q1, q2, q3, q4⟩
          · exact .inl ⟨e, s'', r', q0, q1, q2, e3'.trans q3, q4⟩
          · exact .inr ⟨s'', r', q1, q2, e3'.trans q3, q4⟩
        · have hdd := ho.dst
          have hd0 := dst0 ho.ro
          obtain ⟨y, hy⟩ := at_ok (r := r) (i := o.f1) hd0 (by omega)
          rw [if_pos (by simp [h1]), hy, Option.bind_some, hw]
          rcases ih s' (r.set o.f1.toNat v) e2' (e3'.d.trans hd) (by simpa using hr) with ⟨e, s'', r', q0, q1, q2, q3, q4⟩ | ⟨s'', r', q1, q2, q3, q4⟩
          · exact .inl ⟨e, s'', r', q0, q1, q2, e3'.trans q3, q4⟩
          · exact .inr ⟨s'', r', q1, q2, e3'.trans q3, q4⟩
      · rw [if_pos (by simp [he])]
        exact .inl ⟨e, s', r, he, rfl, e2', e3', hr⟩
theorem block_step {l : List S45} {fl : Int} {n : Nat} (hv : ValueP l fl n) : BlockP l fl (n + 1) := by
  intro B s z b r hI hB hbl hb hr hn
  show ∃ e s' r', trace_runner_block.g (trace_runner_call.fix n).1 (trace_runner_call.fix n).2.1 (trace_runner_call.fix n).2.2 l s.m s.h fl s.i s.f s.d s.o 0 s.ld s.st s.c b r = some (tb e s' r') ∧ _
  unfold trace_runner_block.g
  rcases block_loop hv (d := s.d) hB hbl hb (by omega) s r hI rfl hr with ⟨e, s', r', q0, q1, q2, q3, q4⟩ | ⟨s', r', q1, q2, q3, q4⟩
  · rw [q1, Option.bind_some]
    exact ⟨e, s', r', rfl, q2, q3, q4, fun h => absurd h q0⟩
  · rw [q1, Option.bind_some]
    simp only []
    by_cases hf : s'.f < 1
    · rw [pay_lo hf, Option.bind_some]
      exact ⟨12, s', r', rfl, q2, q3, q4, fun h => absurd h (by decide)⟩
    · rw [pay_hi hf (by have := q2.fB; omega), Option.bind_some]
      have hl := q2.less hf
      exact ⟨0, less s', r', rfl, { hl with pot := by have := hl.pot; omega }, { (q3.trans (Gs.less s')) with pot := by have := (q3.trans (Gs.less s')).pot; omega }, q4, fun _ => by have := q3.f; show s'.f - 1 < s.f; omega⟩
abbrev back (s : Ts) : Ts := { s with d := IntKind.i64.wrap (s.d - 1) }
theorem call_loop {l : List S45} {fl : Int} {n : Nat} (hb : BlockP l fl n) {B d : Int} {z : Nat} {t : S45} (hB : B ≤ 90000) (ht : Fz z t) (hop : ∀ y ∈ t.f1, y.f0.length ≤ 250 ∧ ∀ o ∈ y.f0, Oc l o) (hn : 3 * (1000 - d) + 3 ≤ (n : Int)) :
    ∀ (N : Nat) (s : Ts) (r : List Int) (x : Int), Iv B fl s → s.d = d → r.length = z + 1 → 0 ≤ x → x < (t.f1.length : Int) → s.f < (N : Int) → ∃ v e s', trace_runner_call.l0 (trace_runner_call.fix n).2.1 l fl 0 t N r x s.i s.f s.d s.o s.ld s.st s.c s.m s.h = some (tv v e (back s')) ∧ Iv B fl s' ∧ Gs 0 s s' := by
  intro N
  induction N with
  | zero => intro s r x hI hd hr hx0 hx1 hN; have := hI.f0; omega
  | succ N ih =>
    intro s r x hI hd hr hx0 hx1 hN
    obtain ⟨y, hy⟩ := at_ok (r := t.f1) hx0 hx1
    have hm := at_mem hy
    obtain ⟨k1, k2⟩ := hop y hm
    obtain ⟨e, s', r', q1, q2, q3, q4, q5⟩ := hb B s z y r hI hB k1 (fun o ho => ⟨ht.op y hm o ho, k2 o ho⟩) hr (by omega)
    have q1' : (trace_runner_call.fix n).2.1 l s.m s.h fl s.i s.f s.d s.o 0 s.ld s.st s.c y r = some (tb e s' r') := q1
    obtain ⟨hrt, hz⟩ := ht.term y hm
    rw [trace_runner_call.l0, hy, Option.bind_some, q1', Option.bind_some]
    simp only [jn]
    by_cases he : e = 0
    · have hlt := q5 he
      have go : ∀ x, 0 ≤ x → x < (t.f1.length : Int) → ∃ v e s'', trace_runner_call.l0 (trace_runner_call.fix n).2.1 l fl 0 t N r' x s'.i s'.f s'.d s'.o s'.ld s'.st s'.c s'.m s'.h = some (tv v e (back s'')) ∧ Iv B fl s'' ∧ Gs 0 s s'' := fun x h0 h1 => by
        obtain ⟨v, e, s'', g1, g2, g3⟩ := ih s' r' x q2 (q3.d.trans hd) q4 h0 h1 (by omega)
        exact ⟨v, e, s'', g1, g2, q3.trans g3⟩
      rw [if_neg (by simp [he])]
      unfold Rt at hrt
      rcases hrt with h | h | h | h
      · rw [if_neg (by omega), if_neg (by omega), if_pos h.1, if_pos trivial]
        exact go _ (by omega) (by omega)
      · have hz' := hz (.inl h.1)
        obtain ⟨u, hu⟩ := at_ok (r := r') (i := y.f1.f1) (by have := h.2.2.2.2.2.1; omega) (by omega)
        rw [if_neg (by omega), if_neg (by omega), if_neg (by omega), hu, Option.bind_some]
        by_cases hu0 : u = 0
        · rw [if_neg (by simp [hu0])]; exact go _ (by omega) (by omega)
        · rw [if_pos (by simp [hu0])]; exact go _ (by omega) (by omega)
      · have hz' := hz (.inr h.1)
        obtain ⟨u, hu⟩ := at_ok (r := r') (i := y.f1.f1) (by have := h.2.1.1; omega) (by omega)
        rw [if_pos h.1, hu, Option.bind_some]
        exact ⟨u, 0, s', rfl, q2, q3⟩
      · rw [if_neg (by omega), if_pos h.1]
        exact ⟨0, _, s', rfl, q2, q3⟩
    · rw [if_pos (by simp [he])]
      exact ⟨0, e, s', rfl, q2, q3⟩
theorem cpy_len {xs ys : List Int} {l : Int} (h0 : 0 ≤ l) (h1 : l ≤ (xs.length : Int)) : (cpyL xs l (xs.length : Int) ys).length = xs.length := by
  unfold cpyL; simp; omega
theorem call_step {l : List S45} {fl : Int} {n : Nat} (hb : BlockP l fl n) (hw : Wp l) : CallP l fl (n + 1) := by
  intro B s t us hI hB ht hl hn
  show ∃ v e s', trace_runner_call.g (trace_runner_call.fix n).1 (trace_runner_call.fix n).2.1 (trace_runner_call.fix n).2.2 l s.m s.h fl s.i s.f s.d s.o 0 s.ld s.st s.c t us = some (tv v e s') ∧ _
  unfold trace_runner_call.g
  have hd0 := hI.d0
  have hd1 := hI.d1
  by_cases hd : 1000 ≤ s.d
  · rw [if_pos hd]; exact ⟨0, 8, s, rfl, hI, Gs.refl s (by omega)⟩
  · obtain ⟨z, hz⟩ := hw.fn t ht
    have hle := hz.le
    have hz1 := hz.rf.l1
    rw [if_neg hd, hz.regs, Option.bind_some, w64 (n := (z : Int) + 1) (by omega) (by omega), if_pos (by omega), List.length_replicate, if_pos (by omega), Option.bind_some, w64 (n := s.d + 1) (by omega) (by omega)]
    have hcl : (cpyL (List.replicate ((z : Int) + 1).toNat (0 : Int)) 1 (((z : Int) + 1).toNat : Int) us).length = z + 1 := by
      have := cpy_len (xs := List.replicate ((z : Int) + 1).toNat (0 : Int)) (ys := us) (l := 1) (by omega) (by simp; omega)
      rw [List.length_replicate] at this
      rw [this]; omega
    have hI1 : Iv B fl { s with d := s.d + 1 } := { hI with d0 := by show 0 ≤ s.d + 1; omega, d1 := by show s.d + 1 ≤ 1000; omega }
    obtain ⟨v, e, s', g1, g2, g3⟩ := call_loop hb (d := s.d + 1) hB hz (hw.op t ht) (by omega) 100000 { s with d := s.d + 1 } _ 0 hI1 rfl hcl (by omega) (by omega) (by have := hI.fB; show s.f < _; omega)
    have g1' : trace_runner_call.l0 (trace_runner_call.fix n).2.1 l fl 0 t 100000 (cpyL (List.replicate ((z : Int) + 1).toNat (0 : Int)) 1 (((z : Int) + 1).toNat : Int) us) 0 s.i s.f (s.d + 1) s.o s.ld s.st s.c s.m s.h = some (tv v e (back s')) := g1
    rw [g1', Option.bind_some]
    have hd2 : s'.d = s.d + 1 := g3.d
    have hd3 : IntKind.i64.wrap (s'.d - 1) = s.d := by rw [hd2, w64 (by omega) (by omega)]; omega
    exact ⟨v, e, back s', rfl, { g2 with d0 := by show 0 ≤ IntKind.i64.wrap (s'.d - 1); omega, d1 := by show IntKind.i64.wrap (s'.d - 1) ≤ 1000; omega }, { g3 with d := hd3 }⟩
theorem total {l : List S45} {fl : Int} (hw : Wp l) (hl : l.length ≤ 1000) : ∀ n, CallP l fl n ∧ BlockP l fl n ∧ ValueP l fl n := by
  intro n
  induction n with
  | zero => exact ⟨fun B s t us hI _ _ _ hn => by have := hI.d1; omega, fun B s z b r hI _ _ _ _ hn => by have := hI.d1; omega, fun B s z o r hI _ _ _ _ hn => by have := hI.d1; omega⟩
  | succ n ih => exact ⟨call_step ih.2.1 hw, block_step ih.2.2, value_step ih.1 hl⟩
end Go.Proofs.Ytfmocegnpmomnaa.Sy
set_option linter.unusedVariables false
set_option linter.unusedSimpArgs false
namespace Go.Proofs.Ytfmocegnpmomnaa.Sy
open Go Go.RowKit Go.Proofs.YtfmocegnpmomnaaW.PrintWords Go.Proofs.Ytfmocegnpmomnaa.SyO
/-- Two runners: the second has more fuel; the cells up to the heap's end are alike. -/
structure Rl (m : Int) (s u : Ts) : Prop where
  h : u.h = s.h
  i : u.i = s.i
  f : u.f = s.f + m
  d : u.d = s.d
  o : u.o = s.o
  ld : u.ld = s.ld
  st : u.st = s.st
  c : u.c = s.c
  m : ∀ k : Int, k < s.h → at? u.m k = at? s.m k
structure Ex (s u : Ts) : Prop where
  o : ∃ t, u.o = s.o ++ t
  ld : s.ld ≤ u.ld
  st : s.st ≤ u.st
theorem Ex.go {s u u' : Ts} {k : Int} (h : Ex s u) (g : Gs k u u') : Ex s u' := by
  obtain ⟨t, ht⟩ := h.o
  obtain ⟨q, hq⟩ := g.o
  exact ⟨⟨t ++ q, by rw [hq, ht, List.append_assoc]⟩, Int.le_trans h.ld g.ld, Int.le_trans h.st g.st⟩
theorem Rl.ex {m : Int} {s u : Ts} (h : Rl m s u) : Ex s u := ⟨⟨[], by rw [h.o]; simp⟩, by rw [h.ld]; exact Int.le_refl _, by rw [h.st]; exact Int.le_refl _⟩
/-- Why two runs part. -/
def Dv (fl fl' m e : Int) : Prop := (e = 12 ∧ 0 < m) ∨ (e = 9 ∧ fl < fl')
theorem Dv.ne {fl fl' m e : Int} (h : Dv fl fl' m e) : ¬ e = 0 := by unfold Dv at h; omega
def RV (fl fl' m v e : Int) (s : Ts) (v' e' : Int) (u : Ts) : Prop := (v = v' ∧ e = e' ∧ Rl m s u) ∨ (Dv fl fl' m e ∧ Ex s u)
def CallR (l : List S45) (fl fl' m : Int) (n : Nat) : Prop := ∀ B s u t us, Iv B fl s → Iv (B + m) fl' u → Rl m s u → B + m ≤ 90000 → t ∈ l → (us.length : Int) = t.f0 → 3 * (1000 - s.d) + 1 ≤ (n : Int) → ∃ v e s' v' e' u', Cf n l fl s t us = some (tv v e s') ∧ Cf n l fl' u t us = some (tv v' e' u') ∧ RV fl fl' m v e s' v' e' u'
def BlockR (l : List S45) (fl fl' m : Int) (n : Nat) : Prop := ∀ B s u (z : Nat) b r, Iv B fl s → Iv (B + m) fl' u → Rl m s u → B + m ≤ 90000 → b.f0.length ≤ 250 → (∀ o ∈ b.f0, Oz z o ∧ Oc l o) → r.length = z + 1 → 3 * (1000 - s.d) + 3 ≤ (n : Int) → ∃ e s' r1 e' u' r2, Bf n l fl s b r = some (tb e s' r1) ∧ Bf n l fl' u b r = some (tb e' u' r2) ∧ ((e = e' ∧ r1 = r2 ∧ Rl m s' u') ∨ (Dv fl fl' m e ∧ Ex s' u'))
def ValueR (l : List S45) (fl fl' m : Int) (n : Nat) : Prop := ∀ B s u (z : Nat) o r, Iv B fl s → Iv (B + m) fl' u → Rl m s u → B + m ≤ 90000 → Oz z o → Oc l o → r.length = z + 1 → 3 * (1000 - s.d) + 2 ≤ (n : Int) → ∃ v e s' v' e' u', Vf n l fl s o r = some (tv v e s') ∧ Vf n l fl' u o r = some (tv v' e' u') ∧ RV fl fl' m v e s' v' e' u'
/-! #### An operation, by its kind -/
section
variable {n : Nat} {l : List S45} {fl : Int} {s : Ts} {o : S37} {r : List Int}
theorem v1 (h : o.f0 = 1) : Vf (n + 1) l fl s o r = some (tv o.f4 0 s) := by
  show trace_runner_value.g (trace_runner_call.fix n).1 (trace_runner_call.fix n).2.1 (trace_runner_call.fix n).2.2 l s.m s.h fl s.i s.f s.d s.o 0 s.ld s.st s.c o r = _
  unfold trace_runner_value.g; rw [if_pos h]
theorem v2 {y w k e : Int} (h : o.f0 = 2) (hy : at? r o.f2 = some y) (hw : at? r o.f3 = some w) (hk : word_Do.f o.f4 y w = some (k, e)) : Vf (n + 1) l fl s o r = some (tv k e s) := by
  show trace_runner_value.g (trace_runner_call.fix n).1 (trace_runner_call.fix n).2.1 (trace_runner_call.fix n).2.2 l s.m s.h fl s.i s.f s.d s.o 0 s.ld s.st s.c o r = _
  unfold trace_runner_value.g
  rw [if_neg (by omega), if_neg (by omega), if_pos h, hy, Option.bind_some, hw, Option.bind_some, hk, Option.bind_some]
theorem v3 {y : Int} (h : o.f0 = 3) (hy : at? r o.f2 = some y) : Vf (n + 1) l fl s o r = some (tv y 0 s) := by
  show trace_runner_value.g (trace_runner_call.fix n).1 (trace_runner_call.fix n).2.1 (trace_runner_call.fix n).2.2 l s.m s.h fl s.i s.f s.d s.o 0 s.ld s.st s.c o r = _
  unfold trace_runner_value.g
  rw [if_neg (by omega), if_pos h, hy, Option.bind_some]
theorem v4 {y v e : Int} (h : o.f0 = 4) (hy : at? r o.f2 = some y) (hv : memory_Memory_Load.f s.m s.h fl (IntKind.i64.wrap (y + o.f4)) = some (v, e)) : Vf (n + 1) l fl s o r = some (tv v e { s with ld := if e = 0 then IntKind.i64.wrap (s.ld + 1) else s.ld }) := by
  show trace_runner_value.g (trace_runner_call.fix n).1 (trace_runner_call.fix n).2.1 (trace_runner_call.fix n).2.2 l s.m s.h fl s.i s.f s.d s.o 0 s.ld s.st s.c o r = _
  unfold trace_runner_value.g
  rw [if_neg (by omega), if_neg (by omega), if_neg (by omega), if_neg (by omega), if_neg (by omega), if_neg (by omega)]
  unfold trace_runner_cells.f
  rw [if_pos h, hy, Option.bind_some, hv, Option.bind_some]
  simp only [jn]
  by_cases he : e = 0
  · rw [if_pos he, Option.bind_some, if_pos he]
  · rw [if_neg he, Option.bind_some, if_neg he]
theorem v5 {y w e : Int} {m' : List Int} (h : o.f0 = 5) (hy : at? r o.f2 = some y) (hw : at? r o.f3 = some w) (hv : memory_Memory_Store.f s.m s.h fl (IntKind.i64.wrap (y + o.f4)) w = some (e, m')) : Vf (n + 1) l fl s o r = some (tv 0 e { s with m := m', st := if e = 0 then IntKind.i64.wrap (s.st + 1) else s.st }) := by
  show trace_runner_value.g (trace_runner_call.fix n).1 (trace_runner_call.fix n).2.1 (trace_runner_call.fix n).2.2 l s.m s.h fl s.i s.f s.d s.o 0 s.ld s.st s.c o r = _
  unfold trace_runner_value.g
  rw [if_neg (by omega), if_neg (by omega), if_neg (by omega), if_neg (by omega), if_neg (by omega), if_neg (by omega)]
  unfold trace_runner_cells.f
  rw [if_neg (by omega), if_pos h, hy, Option.bind_some, hw, Option.bind_some, hv, Option.bind_some]
  simp only [jn]
  by_cases he : e = 0
  · rw [if_pos he, Option.bind_some, if_pos he]
  · rw [if_neg he, Option.bind_some, if_neg he]
theorem v6 {v e h' : Int} {m' : List Int} (h : o.f0 = 6) (hv : memory_Memory_Alloc.f s.m s.h fl o.f4 = some (v, e, m', h')) : Vf (n + 1) l fl s o r = some (tv v e { s with m := m', h := h', c := if e = 0 then IntKind.i64.wrap (s.c + o.f4) else s.c }) := by
  show trace_runner_value.g (trace_runner_call.fix n).1 (trace_runner_call.fix n).2.1 (trace_runner_call.fix n).2.2 l s.m s.h fl s.i s.f s.d s.o 0 s.ld s.st s.c o r = _
  unfold trace_runner_value.g
  rw [if_neg (by omega), if_neg (by omega), if_neg (by omega), if_neg (by omega), if_neg (by omega), if_neg (by omega)]
  unfold trace_runner_cells.f
  rw [if_neg (by omega), if_neg (by omega), hv, Option.bind_some]
  simp only [jn]
  by_cases he : e = 0
  · rw [if_pos he, Option.bind_some, if_pos he]
  · rw [if_neg he, Option.bind_some, if_neg he]
theorem v7 {g : S45} {us : List Int} {v e : Int} {s' : Ts} (h : o.f0 = 7) (hl : o.f5.length ≤ 20) (ha : trace_runner_value.l0 o r (o.f5.length + 1) (List.replicate (o.f5.length : Int).toNat (0 : Int)) 0 = some us) (hg : at? l o.f4 = some g) (hs : Cf n l fl s g us = some (tv v e s')) : Vf (n + 1) l fl s o r = some (tv v e s') := by
  show trace_runner_value.g (trace_runner_call.fix n).1 (trace_runner_call.fix n).2.1 (trace_runner_call.fix n).2.2 l s.m s.h fl s.i s.f s.d s.o 0 s.ld s.st s.c o r = _
  unfold trace_runner_value.g
  have hs1' : (trace_runner_call.fix n).1 l s.m s.h fl s.i s.f s.d s.o 0 s.ld s.st s.c g us = some (tv v e s') := hs
  rw [if_neg (by omega), if_neg (by omega), if_neg (by omega), if_neg (by omega), if_neg (by omega), if_pos h, if_pos (by omega), ha, Option.bind_some, hg, Option.bind_some, hs1', Option.bind_some]
theorem v8 (h : o.f0 = 8) (hi : (s.i.length : Int) = 0) : Vf (n + 1) l fl s o r = some (tv 0 10 s) := by
  show trace_runner_value.g (trace_runner_call.fix n).1 (trace_runner_call.fix n).2.1 (trace_runner_call.fix n).2.2 l s.m s.h fl s.i s.f s.d s.o 0 s.ld s.st s.c o r = _
  unfold trace_runner_value.g
  rw [if_neg (by omega), if_neg (by omega), if_neg (by omega), if_pos h]
  unfold trace_runner_read.f
  rw [if_pos hi, Option.bind_some]
theorem v8' {y : Int} {u : List Int} (h : o.f0 = 8) (hi : ¬ (s.i.length : Int) = 0) (hy : at? s.i 0 = some y) (hu : cut? s.i (1 : Int) (s.i.length : Int) = some u) : Vf (n + 1) l fl s o r = some (tv y 0 { s with i := u }) := by
  show trace_runner_value.g (trace_runner_call.fix n).1 (trace_runner_call.fix n).2.1 (trace_runner_call.fix n).2.2 l s.m s.h fl s.i s.f s.d s.o 0 s.ld s.st s.c o r = _
  unfold trace_runner_value.g
  rw [if_neg (by omega), if_neg (by omega), if_neg (by omega), if_pos h]
  unfold trace_runner_read.f
  rw [if_neg hi, hy, Option.bind_some, hu, Option.bind_some, Option.bind_some]
theorem v9 {y : Int} (h : o.f0 = 9) (hy : at? r o.f2 = some y) (hl : s.o.length < 17592186044416) : Vf (n + 1) l fl s o r = some (tv 0 0 { s with o := s.o ++ [y] }) := by
  show trace_runner_value.g (trace_runner_call.fix n).1 (trace_runner_call.fix n).2.1 (trace_runner_call.fix n).2.2 l s.m s.h fl s.i s.f s.d s.o 0 s.ld s.st s.c o r = _
  unfold trace_runner_value.g
  rw [if_neg (by omega), if_neg (by omega), if_neg (by omega), if_neg (by omega), if_pos h, hy, Option.bind_some, if_pos hl]
end
theorem args_f {o : S37} {r : List Int} {z : Nat} (ho : Oz z o) (h7 : o.f0 = 7) (hr : r.length = z + 1) : ∃ us : List Int, trace_runner_value.l0 o r (o.f5.length + 1) (List.replicate (o.f5.length : Int).toNat (0 : Int)) 0 = some us ∧ us.length = o.f5.length := by
  have ha5 := ho.args
  have hro := ho.ro
  have hrg : ∀ a ∈ o.f5, Rg a := by
    unfold Ro at hro
    rcases hro with h | h | h | h | h | h | h | h | h <;> first | (exfalso; omega) | exact h.2.2.2.2
  have := loopd (xs := o.f5) (F := fun n i w => trace_runner_value.l0 o r n w i) (P := fun ys f => ∀ w : List Int, w.length = o.f5.length → ∃ us, f w = some us ∧ us.length = o.f5.length) (by omega) (fun n w hw => ⟨w, by simp [trace_runner_value.l0], hw⟩) (fun n i y ys hd hlt hat hm hw ih w hwl => by
    have hy := ho.c h7 y hm
    have hy1 := hrg y hm
    obtain ⟨u, hu⟩ := at_ok (r := r) (i := y) (by have := hy1.1; omega) (by omega)
    obtain ⟨u2, hu2⟩ := at_ok (r := w) (i := (i : Int)) (by omega) (by omega)
    obtain ⟨us, e1, e2⟩ := ih (w.set i u) (by simpa using hwl)
    refine ⟨us, ?_, e2⟩
    show trace_runner_value.l0 o r (n + 1) w i = _
    rw [trace_runner_value.l0, if_pos hlt, hat, Option.bind_some, hu, Option.bind_some, hu2, Option.bind_some, Int.toNat_natCast, hw]; exact e1) (o.f5.length + 1) (by omega)
  exact this _ (by simp)
/-! #### Cells, twice -/
theorem there_eq {m : List Int} {h fl a : Int} (hm : (m.length : Int) = fl) (h2 : h ≤ fl) : memory_Memory_there.f m h fl a = some (decide (1 ≤ a ∧ a < h)) := by
  unfold memory_Memory_there.f
  by_cases h1 : 1 ≤ a
  · rw [if_pos h1]
    by_cases h3 : a < h
    · rw [if_pos h3]; simp [h1, h3]
    · rw [if_neg h3]
      by_cases h4 : fl ≤ a
      · rw [if_pos h4]; simp [h3]; omega
      · rw [if_neg h4]; simp [h3]
  · rw [if_neg h1]
    by_cases h4 : fl ≤ a
    · rw [if_pos h4]; simp [h1]; omega
    · rw [if_neg h4]; simp [h1]
theorem load_two {B B' fl fl' m : Int} {s u : Ts} (h : Iv B fl s) (h' : Iv B' fl' u) (hR : Rl m s u) (a : Int) : memory_Memory_Load.f u.m u.h fl' a = memory_Memory_Load.f s.m s.h fl a := by
  unfold memory_Memory_Load.f
  rw [there_eq h.ml h.h2, there_eq h'.ml h'.h2, hR.h, Option.bind_some, Option.bind_some]
  by_cases hc : 1 ≤ a ∧ a < s.h
  · rw [hR.m a hc.2]
  · simp [hc]
theorem store_two {B B' fl fl' m : Int} {s u : Ts} (h : Iv B fl s) (h' : Iv B' fl' u) (hR : Rl m s u) (a v : Int) : ∃ e m1 m2, memory_Memory_Store.f s.m s.h fl a v = some (e, m1) ∧ memory_Memory_Store.f u.m u.h fl' a v = some (e, m2) ∧ ∀ k : Int, k < s.h → at? m2 k = at? m1 k := by
  unfold memory_Memory_Store.f
  rw [there_eq h.ml h.h2, there_eq h'.ml h'.h2, hR.h, Option.bind_some, Option.bind_some]
  by_cases hc : 1 ≤ a ∧ a < s.h
  · have i1 := h.ml; have i2 := h.h2; have i3 := h'.ml; have i4 := h'.h2; have i5 := hR.h
    obtain ⟨y, hy⟩ := at_ok (r := s.m) (i := a) (by omega) (by omega)
    rw [hR.m a hc.2, decide_eq_true hc, hy]
    refine ⟨0, s.m.set a.toNat v, u.m.set a.toNat v, by simp, by simp, fun k hk => ?_⟩
    have hk' := hR.m k hk
    unfold at? at hk' ⊢
    by_cases h0 : 0 ≤ k
    · rw [if_pos h0, if_pos h0] at hk'
      rw [if_pos h0, if_pos h0]
      by_cases he : a.toNat = k.toNat
      · rw [he, List.getElem?_set_self (by omega), List.getElem?_set_self (by omega)]
      · rw [List.getElem?_set_ne he, List.getElem?_set_ne he]; exact hk'
    · rw [if_neg h0, if_neg h0]
  · exact ⟨7, s.m, u.m, by simp [hc], by simp [hc], hR.m⟩
theorem at_clr_lo {xs : List Int} {l h k : Int} (h0 : 0 ≤ l) (h1 : l ≤ (xs.length : Int)) (hk : k < l) : at? (clrL xs l h) k = at? xs k := by
  unfold at? clrL
  by_cases h2 : 0 ≤ k
  · rw [if_pos h2, if_pos h2, List.append_assoc, List.getElem?_append_left (by simp; omega), List.getElem?_take_of_lt (by omega)]
  · rw [if_neg h2, if_neg h2]
theorem at_clr_hi {xs : List Int} {l h k : Int} (h0 : 0 ≤ l) (h1 : l ≤ (xs.length : Int)) (hk : l ≤ k) (hh : k < h) : at? (clrL xs l h) k = some 0 := by
  unfold at? clrL
  rw [if_pos (by omega), List.getElem?_append_left (by simp; omega), List.getElem?_append_right (by simp; omega), List.getElem?_replicate, if_pos (by simp; omega)]
theorem alloc_no {m : List Int} {h fl k : Int} (h0 : 0 ≤ k) (h1 : 0 ≤ h) (h2 : h ≤ fl) (h3 : fl ≤ 1048576) (hk : fl - h < k) : memory_Memory_Alloc.f m h fl k = some (0, 9, m, h) := by
  unfold memory_Memory_Alloc.f
  rw [if_neg (by omega), w64 (n := fl - h) (by omega) (by omega), if_pos hk]
theorem alloc_yes {m : List Int} {h fl k : Int} (h0 : 0 ≤ k) (h1 : 0 ≤ h) (h2 : h ≤ fl) (h3 : fl ≤ 1048576) (hm : (m.length : Int) = fl) (hk : ¬ fl - h < k) : memory_Memory_Alloc.f m h fl k = some (h, 0, clrL m h (h + k), h + k) := by
  unfold memory_Memory_Alloc.f
  rw [if_neg (by omega), w64 (n := fl - h) (by omega) (by omega), w64 (n := h + k) (by omega) (by omega), if_neg hk, if_pos (by omega), Option.bind_some]
theorem value_sim {l : List S45} {fl fl' m : Int} {n : Nat} (hc : CallR l fl fl' m n) (hl : l.length ≤ 1000) (hfl : fl ≤ fl') : ValueR l fl fl' m (n + 1) := by
  intro B s u z o r hI hJ hR hB ho hoc hr hn
  have hro := ho.ro
  have hlo : (r.length : Int) = z + 1 := by omega
  have i1 := hI.f0; have i2 := hI.ld0; have i3 := hI.st0; have i4 := hI.pot; have i5 := hI.c; have i6 := hI.h1; have i7 := hI.h2; have i8 := hI.fl1
  have j1 := hJ.f0; have j2 := hJ.ld0; have j3 := hJ.st0; have j4 := hJ.pot; have j5 := hJ.c; have j6 := hJ.h1; have j7 := hJ.h2; have j8 := hJ.fl1
  unfold Ro at hro
  rcases hro with h | h | h | h | h | h | h | h | h
  · exact ⟨_, _, _, _, _, _, v1 h.1, v1 h.1, .inl ⟨rfl, rfl, hR⟩⟩
  · have g1 := ho.a (.inl h.1); have g2 := ho.b (.inl h.1)
    obtain ⟨y, hy⟩ := at_ok (r := r) (i := o.f2) (by have := h.2.2.1.1; omega) (by omega)
    obtain ⟨w, hw⟩ := at_ok (r := r) (i := o.f3) (by have := h.2.2.2.1.1; omega) (by omega)
    obtain ⟨k, e, hk⟩ := do_f o.f4 y w
    exact ⟨_, _, _, _, _, _, v2 h.1 hy hw hk, v2 h.1 hy hw hk, .inl ⟨rfl, rfl, hR⟩⟩
  · have g1 := ho.a (.inr (.inl h.1))
    obtain ⟨y, hy⟩ := at_ok (r := r) (i := o.f2) (by have := h.2.2.1.1; omega) (by omega)
    exact ⟨_, _, _, _, _, _, v3 h.1 hy, v3 h.1 hy, .inl ⟨rfl, rfl, hR⟩⟩
  · have g1 := ho.a (.inr (.inr (.inl h.1)))
    obtain ⟨y, hy⟩ := at_ok (r := r) (i := o.f2) (by have := h.2.2.1.1; omega) (by omega)
    obtain ⟨v, e, hv⟩ := load_f hI (IntKind.i64.wrap (y + o.f4))
    have hv' := (load_two hI hJ hR (IntKind.i64.wrap (y + o.f4))).trans hv
    exact ⟨_, _, _, _, _, _, v4 h.1 hy hv, v4 h.1 hy hv', .inl ⟨rfl, rfl, { hR with ld := by show (if e = 0 then IntKind.i64.wrap (u.ld + 1) else u.ld) = _; rw [hR.ld] }⟩⟩
  · have g1 := ho.a (.inr (.inr (.inr (.inl h.1)))); have g2 := ho.b (.inr h.1)
    obtain ⟨y, hy⟩ := at_ok (r := r) (i := o.f2) (by have := h.2.2.1.1; omega) (by omega)
    obtain ⟨w, hw⟩ := at_ok (r := r) (i := o.f3) (by have := h.2.2.2.1.1; omega) (by omega)
    obtain ⟨e, m1, m2, hv, hv', hmm⟩ := store_two hI hJ hR (IntKind.i64.wrap (y + o.f4)) w
    exact ⟨_, _, _, _, _, _, v5 h.1 hy hw hv, v5 h.1 hy hw hv', .inl ⟨rfl, rfl, { hR with st := by show (if e = 0 then IntKind.i64.wrap (u.st + 1) else u.st) = _; rw [hR.st], m := hmm }⟩⟩
  · obtain ⟨k0, k1⟩ := hoc.new h.1
    have hh := hR.h
    by_cases hk : fl - s.h < o.f4
    · have e1 := alloc_no (m := s.m) k0 (by omega) i7 i8 hk
      by_cases hk' : fl' - u.h < o.f4
      · have e2 := alloc_no (m := u.m) k0 (by omega) j7 j8 hk'
        exact ⟨_, _, _, _, _, _, v6 h.1 e1, v6 h.1 e2, .inl ⟨rfl, rfl, { hR with c := hR.c }⟩⟩
      · have e2 := alloc_yes k0 (by omega) j7 j8 hJ.ml hk'
        have hx := hR.ex
        exact ⟨_, _, _, _, _, _, v6 h.1 e1, v6 h.1 e2, .inr ⟨.inr ⟨rfl, by omega⟩, ⟨hx.o, hx.ld, hx.st⟩⟩⟩
    · have e1 := alloc_yes k0 (by omega) i7 i8 hI.ml hk
      have e2 := alloc_yes k0 (by omega) j7 j8 hJ.ml (show ¬ fl' - u.h < o.f4 by omega)
      refine ⟨_, _, _, _, _, _, v6 h.1 e1, v6 h.1 e2, .inl ⟨hh.symm, rfl, { hR with h := by show u.h + o.f4 = s.h + o.f4; rw [hh], c := by show (if (0 : Int) = 0 then IntKind.i64.wrap (u.c + o.f4) else u.c) = _; rw [hR.c], m := fun k hk1 => ?_ }⟩⟩
      have i9 := hI.ml; have j9 := hJ.ml
      show at? (clrL u.m u.h (u.h + o.f4)) k = at? (clrL s.m s.h (s.h + o.f4)) k
      have hk2 : k < s.h + o.f4 := hk1
      rw [hh]
      by_cases hk3 : k < s.h
      · rw [at_clr_lo (by omega) (by omega) hk3, at_clr_lo (by omega) (by omega) hk3]; exact hR.m k hk3
      · rw [at_clr_hi (by omega) (by omega) (by omega) hk2, at_clr_hi (by omega) (by omega) (by omega) hk2]
  · obtain ⟨g, hg1, hg2⟩ := hoc.call h.1
    obtain ⟨us, ha1, ha2⟩ := args_f ho h.1 hr
    obtain ⟨v, e, s', v', e', u', q1, q2, q3⟩ := hc B s u g us hI hJ hR hB (at_mem hg1) (by omega) (by omega)
    exact ⟨v, e, s', v', e', u', v7 h.1 ho.args ha1 hg1 q1, v7 h.1 ho.args ha1 hg1 q2, q3⟩
  · have hi := hR.i
    by_cases h0 : (s.i.length : Int) = 0
    · exact ⟨_, _, _, _, _, _, v8 h.1 h0, v8 h.1 (by rw [hi]; exact h0), .inl ⟨rfl, rfl, hR⟩⟩
    · obtain ⟨y, hy⟩ := at_ok (r := s.i) (i := 0) (by omega) (by omega)
      have hcut : ∃ q, cut? s.i (1 : Int) (s.i.length : Int) = some q := by unfold cut?; exact ⟨_, if_pos (by omega)⟩
      obtain ⟨q, hq⟩ := hcut
      exact ⟨_, _, _, _, _, _, v8' (u := q) h.1 h0 hy hq, v8' (s := u) (u := q) (y := y) h.1 (by rw [hi]; exact h0) (by rw [hi]; exact hy) (by rw [hi]; exact hq), .inl ⟨rfl, rfl, { hR with i := rfl }⟩⟩
  · have g1 := ho.a (.inr (.inr (.inr (.inr h.1))))
    obtain ⟨y, hy⟩ := at_ok (r := r) (i := o.f2) (by have := h.2.2.1.1; omega) (by omega)
    have jl : u.o.length = s.o.length := by rw [hR.o]
    exact ⟨_, _, _, _, _, _, v9 h.1 hy (by omega), v9 h.1 hy (by omega), .inl ⟨rfl, rfl, { hR with o := by show u.o ++ [y] = s.o ++ [y]; rw [hR.o] }⟩⟩
end Go.Proofs.Ytfmocegnpmomnaa.Sy
set_option linter.unusedVariables false
set_option linter.unusedSimpArgs false
namespace Go.Proofs.Ytfmocegnpmomnaa.Sy
open Go Go.RowKit Go.Proofs.YtfmocegnpmomnaaW.PrintWords Go.Proofs.Ytfmocegnpmomnaa.SyO
/-! #### Rows -/
theorem sleq (xs ys : List Int) (hl : xs.length ≤ 140737488355328) : slices_Equal_int_int.f xs ys = some (decide (xs = ys)) := by
  unfold slices_Equal_int_int.f
  by_cases hlen : xs.length = ys.length
  · rw [if_neg (by simp [hlen])]
    have hz : (xs.zip ys).length = xs.length := by rw [List.length_zip]; omega
    have := loopd (xs := xs.zip ys) (F := fun n i => slices_Equal_int_int.l0 xs ys n i) (P := fun ps r => r = some (if (∀ p ∈ ps, p.1 = p.2) then .inr () else .inl false)) (by omega) (fun n => by
        show slices_Equal_int_int.l0 xs ys (n + 1) ((xs.zip ys).length : Int) = _
        rw [slices_Equal_int_int.l0, hz, if_neg (by omega)]; simp) (fun n i p r hd hlt hat hm hw ih => by
        obtain ⟨a1, a2⟩ := at_zip hat
        show slices_Equal_int_int.l0 xs ys (n + 1) (i : Int) = _
        rw [slices_Equal_int_int.l0, if_pos (by omega), a1, a2]
        simp only [Option.bind_some, hw]
        by_cases hp : p.1 = p.2
        · rw [if_neg (by simp [hp])]
          have ih' : slices_Equal_int_int.l0 xs ys n ((i + 1 : Nat) : Int) = _ := ih
          rw [ih']; simp only [List.forall_mem_cons, hp, true_and]
        · rw [if_pos (by simp [hp])]; simp only [List.forall_mem_cons, hp, false_and, if_false]) (xs.length + 1) (by omega)
    have this' : slices_Equal_int_int.l0 xs ys (xs.length + 1) 0 = _ := this
    rw [this']
    have hza := zip_all hlen
    by_cases he : xs = ys
    · rw [if_pos (hza.2 he)]; simp [he]
    · rw [if_neg (fun h => he (hza.1 h))]; simp [he]
  · rw [if_pos (by simp; omega)]
    have : ¬ xs = ys := fun h => hlen (by rw [h])
    simp [this]
theorem cut_pre {xs : List Int} {n : Int} (h0 : 0 ≤ n) (h1 : n ≤ (xs.length : Int)) : cut? xs (0 : Int) n = some (xs.take n.toNat) := by
  unfold cut?; rw [if_pos ⟨by omega, h0, h1⟩]; simp
theorem same_s (a b : S28) (hl : a.f0.length ≤ 140737488355328) : trace_Same.f a b = some (decide (a.f1 = b.f1 ∧ a.f0 = b.f0)) := by
  unfold trace_Same.f
  by_cases h : a.f1 = b.f1
  · rw [if_pos h, sleq _ _ hl]; simp [h]
  · rw [if_neg h]; simp [h]
theorem prefix_s (a b : S28) (hl : a.f0.length ≤ 140737488355328) : trace_Prefix.f a b = some (decide (a.f0 = b.f0.take a.f0.length)) := by
  unfold trace_Prefix.f
  by_cases h : (a.f0.length : Int) ≤ (b.f0.length : Int)
  · rw [if_pos h, cut_pre (by omega) h, Option.bind_some, sleq _ _ hl, Int.toNat_natCast, Option.bind_some]
  · rw [if_neg h]
    have : ¬ a.f0 = b.f0.take a.f0.length := fun e => by have := congrArg List.length e; rw [List.length_take] at this; omega
    simp [this]
/-! #### Few -/
theorem suses_f {o : S37} (hl : o.f5.length ≤ 20) : ∃ u, swageref14_Uses.f o = some u ∧ u.length ≤ 20 := by
  unfold swageref14_Uses.f
  simp only [jn]
  repeat' split
  all_goals first | (refine ⟨_, rfl, ?_⟩; first | exact hl | (simp; done)) | (exfalso; simp at *; omega)
theorem ssets_f (o : S37) : ∃ u, swageref14_Sets.f o = some u := by
  unfold swageref14_Sets.f
  simp only [jn]
  repeat' split
  all_goals exact ⟨_, rfl⟩
theorem stuses_f (t : S40) : ∃ u, swageref14_TermUses.f t = some u ∧ u.length ≤ 20 := by
  unfold swageref14_TermUses.f
  simp only [jn]
  repeat' split
  all_goals exact ⟨_, rfl, by simp⟩
theorem sreg_l3 {u : List Int} (hl : u.length ≤ 20) (x : Int) : ∃ z, swageref14_Regs.l3 u (u.length + 1) x 0 = some z := by
  have := loopd (xs := u) (F := fun n i w => swageref14_Regs.l3 u n w i) (P := fun _ f => ∀ w : Int, ∃ z, f w = some z) (by omega) (fun n w => ⟨w, by simp [swageref14_Regs.l3]⟩) (fun n i y r hd hlt hat hm hw ih w => by
    show ∃ z, swageref14_Regs.l3 u (n + 1) w i = some z
    rw [swageref14_Regs.l3, if_pos hlt, hat, Option.bind_some, hw]; exact ih _) (u.length + 1) (by omega)
  exact this x
theorem sreg_l2 {u : List Int} (hl : u.length ≤ 20) (x : Int) : ∃ z, swageref14_Regs.l2 u (u.length + 1) x 0 = some z := by
  have := loopd (xs := u) (F := fun n i w => swageref14_Regs.l2 u n w i) (P := fun _ f => ∀ w : Int, ∃ z, f w = some z) (by omega) (fun n w => ⟨w, by simp [swageref14_Regs.l2]⟩) (fun n i y r hd hlt hat hm hw ih w => by
    show ∃ z, swageref14_Regs.l2 u (n + 1) w i = some z
    rw [swageref14_Regs.l2, if_pos hlt, hat, Option.bind_some, hw]; exact ih _) (u.length + 1) (by omega)
  exact this x
theorem sreg_l1 {t : S45} {x : Int} {y : S42} (hy : at? t.f1 x = some y) (hl : y.f0.length ≤ 250) (ho : ∀ o ∈ y.f0, o.f5.length ≤ 20) (x0 : Int) : ∃ z, swageref14_Regs.l1 t x (y.f0.length + 1) x0 0 = some z := by
  have := loopd (xs := y.f0) (F := fun n i w => swageref14_Regs.l1 t x n w i) (P := fun _ f => ∀ w : Int, ∃ z, f w = some z) (by omega) (fun n w => ⟨w, by simp [swageref14_Regs.l1, hy]⟩) (fun n i o r hd hlt hat hm hw ih w => by
    obtain ⟨u, u1, u2⟩ := suses_f (ho o hm)
    obtain ⟨s, s1⟩ := ssets_f o
    show ∃ z, swageref14_Regs.l1 t x (n + 1) w i = some z
    obtain ⟨v, hv⟩ := sreg_l3 u2 (if w < s then s else w)
    rw [swageref14_Regs.l1, hy, Option.bind_some, if_pos hlt, hat, Option.bind_some, s1, Option.bind_some, u1, Option.bind_some, hv, Option.bind_some, hw]; exact ih _) (y.f0.length + 1) (by omega)
  exact this x0
theorem sreg_f {t : S45} (h : Fewp t) : ∃ z, swageref14_Regs.f t = some z := by
  obtain ⟨f1, f2, f3⟩ := h
  have := loopd (xs := t.f1) (F := fun n i w => swageref14_Regs.l0 t n w i) (P := fun _ f => ∀ w : Int, ∃ z, f w = some z) (by omega) (fun n w => ⟨w, by simp [swageref14_Regs.l0]⟩) (fun n i y r hd hlt hat hm hw ih w => by
    obtain ⟨v, hv⟩ := sreg_l1 hat (f3 y hm).1 (f3 y hm).2 w
    obtain ⟨u, u1, u2⟩ := stuses_f y.f1
    obtain ⟨q, hq⟩ := sreg_l2 u2 v
    show ∃ z, swageref14_Regs.l0 t (n + 1) w i = some z
    rw [swageref14_Regs.l0, if_pos hlt, hat]
    simp only [Option.elim_some]
    rw [hv, Option.bind_some, Option.bind_some, u1, Option.bind_some, hq, Option.bind_some, hw]; exact ih _) (t.f1.length + 1) (by omega)
  obtain ⟨z, hz⟩ := this (if t.f0 < 0 then 0 else t.f0)
  unfold swageref14_Regs.f
  have hz' : swageref14_Regs.l0 t (t.f1.length + 1) (if t.f0 < 0 then 0 else t.f0) 0 = some z := hz
  rw [hz']; exact ⟨_, rfl⟩
theorem few15 {l : List S45} (h : l.length * 32 ≤ 140737488351232 ∧ ∀ y ∈ l, ok45 y) : ∃ b, swagelaw15_Few.f l = some b ∧ (b = true → l.length ≤ 8 ∧ ∀ t ∈ l, Fewp t) := by
  have h0 : ∃ r, swagelaw15_Few.l0 l (l.length + 1) 0 = some r ∧ (r = .inl false ∨ (r = .inr () ∧ (l.length ≤ 20 → ∀ t ∈ l, Fewp t))) := by
    refine loopd (xs := l) (F := fun n i => swagelaw15_Few.l0 l n i) (P := fun ts f => ∃ r, f = some r ∧ (r = .inl false ∨ (r = .inr () ∧ (l.length ≤ 20 → ∀ t ∈ ts, Fewp t)))) (by have := h.1; omega) (fun n => ⟨.inr (), by simp [swagelaw15_Few.l0, jn], .inr ⟨rfl, by simp⟩⟩) (fun n i t r hd hlt hat hm hw ih => ?_) (l.length + 1) (by omega)
    show ∃ r, swagelaw15_Few.l0 l (n + 1) i = some r ∧ _
    obtain ⟨b, b1, b2⟩ := few_f (h.2 t hm)
    rw [swagelaw15_Few.l0]
    simp only [jn]
    rw [if_pos hlt]
    by_cases h20 : (i : Int) < 20
    · rw [if_pos (by simpa using h20), hat, Option.bind_some, b1, Option.bind_some]
      cases b with
      | false => exact ⟨.inl false, by simp, .inl rfl⟩
      | true =>
        obtain ⟨z, hz⟩ := sreg_f (b2 rfl)
        rw [if_neg (by simp), hz, Option.bind_some, hw]
        by_cases h60 : 60 < z
        · exact ⟨.inl false, by simp [h60], .inl rfl⟩
        · obtain ⟨q, q1, q2⟩ := ih
          refine ⟨q, by simp only [h60, decide_false, Bool.false_eq_true, if_false]; exact q1, ?_⟩
          rcases q2 with q2 | ⟨q2, q3⟩
          · exact .inl q2
          · refine .inr ⟨q2, fun hl u hu => ?_⟩
            rcases List.mem_cons.1 hu with rfl | hu
            · exact b2 rfl
            · exact q3 hl u hu
    · rw [if_neg (by simpa using h20)]
      exact ⟨.inr (), rfl, .inr ⟨rfl, fun hl => by omega⟩⟩
  obtain ⟨r, r1, r2⟩ := h0
  unfold swagelaw15_Few.f
  rw [r1, Option.bind_some]
  rcases r2 with rfl | ⟨rfl, r3⟩
  · exact ⟨false, rfl, fun h => by cases h⟩
  · exact ⟨decide ((l.length : Int) ≤ 8), rfl, fun h => by have := of_decide_eq_true h; exact ⟨by omega, r3 (by omega)⟩⟩
/-! #### Programs -/
def okProg (l : List S45) : Bool := l.all fun t => okFn t l.length && (t.f1.all fun y => y.f0.all fun o => okCall l o)
theorem prog_f {l : List S45} (h8 : l.length ≤ 8) (hf : ∀ t ∈ l, Fewp t) : ∃ b, code_Program.f l = some b ∧ (b = true → okProg l = true ∧ ∃ t, at? l 0 = some t ∧ t.f0 = 0) := by
  have h0 : code_Program.l0 l (l.length + 1) 0 = some (if okProg l then .inr () else .inl false) := by
    refine loopd (xs := l) (F := fun n i => code_Program.l0 l n i) (P := fun ts f => f = some (if (ts.all fun t => okFn t l.length && (t.f1.all fun y => y.f0.all fun o => okCall l o)) then .inr () else .inl false)) (by omega) (fun n => by simp [code_Program.l0]) (fun n i t r hd hlt hat hm hw ih => ?_) (l.length + 1) (by omega)
    rw [code_Program.l0, if_pos hlt, hat, Option.bind_some, cright_f (by omega) (by omega) (hf t hm), Option.bind_some]
    cases hr : okFn t (l.length : Int) with
    | false => rw [if_pos (by simp)]; simp [hr]
    | true =>
      rw [if_neg (by simp), cprog_l1 (hf t hm) hr, Option.bind_some, hw]
      cases hc : (t.f1.all fun y => y.f0.all fun o => okCall l o) with
      | false => simp [hr, hc]
      | true =>
        simp only [if_true, List.all_cons, hr, hc, Bool.true_and]
        exact ih
  unfold code_Program.f
  simp only [jn, within_f, Option.bind_some]
  by_cases hl : 1 ≤ (l.length : Int) ∧ (l.length : Int) ≤ 256
  · obtain ⟨t, ht⟩ := at_ok (r := l) (i := 0) (by omega) (by omega)
    rw [decide_eq_true hl, if_neg (by simp), ht, Option.bind_some]
    by_cases ht0 : t.f0 = 0
    · rw [if_neg (by simp [ht0]), h0, Option.bind_some]
      cases hp : okProg l with
      | false => exact ⟨false, rfl, fun h => by cases h⟩
      | true => exact ⟨true, rfl, fun _ => ⟨rfl, t, rfl, ht0⟩⟩
    · rw [if_pos (by simp [ht0])]; exact ⟨false, rfl, fun h => by cases h⟩
  · rw [decide_eq_false hl, if_pos (by simp)]; exact ⟨false, rfl, fun h => by cases h⟩
theorem wp_of {l : List S45} (h8 : l.length ≤ 8) (hf : ∀ t ∈ l, Fewp t) (hp : okProg l = true) : Wp l := by
  have hk : ∀ t ∈ l, okFn t l.length = true ∧ (∀ y ∈ t.f1, ∀ o ∈ y.f0, okCall l o = true) := fun t ht => by
    have := List.all_eq_true.1 hp t ht
    obtain ⟨h1, h2⟩ := (Bool.and_eq_true _ _).mp this
    exact ⟨h1, fun y hy o ho => List.all_eq_true.1 (List.all_eq_true.1 h2 y hy) o ho⟩
  refine ⟨fun t ht => ?_, fun t ht y hy => ⟨((hf t ht).2.2 y hy).1, fun o ho => ?_⟩⟩
  · obtain ⟨b, b1, b2⟩ := right_f (hf t ht) (l.length : Int)
    rw [cright_f (by omega) (by omega) (hf t ht), (hk t ht).1] at b1
    exact regs_full (hf t ht) (b2 (Option.some.inj b1).symm)
  · have hfn := (hk t ht).1
    unfold okFn at hfn
    obtain ⟨_, hr⟩ := (Bool.and_eq_true _ _).mp hfn
    have hop := List.all_eq_true.1 (List.all_eq_true.1 hr y hy) o ho
    refine ⟨fun h7 => ?_, fun h6 => ?_⟩
    · obtain ⟨g, hg⟩ := call_at hop h7
      have := (hk t ht).2 y hy o ho
      unfold okCall at this
      rw [if_pos h7, hg] at this
      exact ⟨g, hg, of_decide_eq_true this⟩
    · unfold okOp at hop
      simp only [h6] at hop
      simp at hop
      omega
/-! #### Runs -/
/-- What a runner holds at first. -/
abbrev ts0 (a1 : Int) (a2 : List Int) (a3 : Int) : Ts := ⟨List.replicate a1.toNat (0 : Int), 1, a2, a3, 0, [], 0, 0, 0⟩
abbrev none28 : S28 := ⟨[], 0, 0, 0, 0⟩
theorem run_f {l : List S45} (h8 : l.length ≤ 8) (hf : ∀ t ∈ l, Fewp t) : (∀ a1 a2 a3, 1 ≤ a1 → a1 ≤ 4096 → trace_Run.f l a1 a2 a3 = some (none28, 1)) ∨ (Wp l ∧ ∃ t, t ∈ l ∧ t.f0 = 0 ∧ ∀ a1 a2 a3, 1 ≤ a1 → a1 ≤ 4096 → ∀ v e s', Cf 100000 l a1 (ts0 a1 a2 a3) t [] = some (tv v e s') → trace_Run.f l a1 a2 a3 = some (⟨s'.o, e, s'.ld, s'.st, s'.c⟩, 0)) := by
  obtain ⟨b, b1, b2⟩ := prog_f h8 hf
  cases b with
  | false =>
    refine .inl fun a1 a2 a3 h1 h2 => ?_
    unfold trace_Run.f
    simp only [jn]
    rw [if_neg (by omega), if_neg (by simp; omega), if_pos (by omega), b1]; rfl
  | true =>
    obtain ⟨hp, t, ht, ht0⟩ := b2 rfl
    refine .inr ⟨wp_of h8 hf hp, t, at_mem ht, ht0, fun a1 a2 a3 h1 h2 v e s' hs => ?_⟩
    have hs' : trace_runner_call.f l (List.replicate a1.toNat (0 : Int)) 1 a1 a2 a3 0 ([] : List Int) 0 0 0 0 t ([] : List Int) = some (tv v e s') := hs
    unfold trace_Run.f
    simp only [jn]
    rw [if_neg (by omega), if_neg (by simp; omega), if_pos (by omega), b1, Option.bind_some, if_neg (by simp), ht, Option.bind_some, hs']; rfl
theorem iv0 {a1 a3 : Int} {a2 : List Int} (h1 : 1 ≤ a1) (h2 : a1 ≤ 4096) (h3 : 0 ≤ a3) : Iv a3 a1 (ts0 a1 a2 a3) :=
  ⟨h3, Int.le_refl _, by show (0 : Int) ≤ 1000; omega, by show ((List.replicate a1.toNat (0 : Int)).length : Int) = a1; rw [List.length_replicate]; omega, Int.le_refl _, h1, by omega, rfl, Int.le_refl _, Int.le_refl _, by show (([] : List Int).length : Int) + 0 + 0 + a3 ≤ a3; simp⟩
theorem traceCounts_law (a0 : List S45) (a1 : Int) (a2 : List Int) (a3 : Int) (h0 : a0.length * 32 ≤ 140737488351232 ∧ ∀ y ∈ a0, ok45 y) (h1 : (Lit.int .i64 a1).wf = true) (h2 : a2.length * 8 ≤ 140737488351232 ∧ ∀ y ∈ a2, (Lit.int .i64 y).wf = true) (h3 : (Lit.int .i64 a3).wf = true) : swagelaw15_TraceCounts.f a0 a1 a2 a3 = some true := by
  obtain ⟨b, b1, b2⟩ := few15 h0
  unfold swagelaw15_TraceCounts.f
  rw [small15, Option.bind_some, b1, Option.bind_some]
  simp only [jn]
  cases b with
  | false => rw [if_pos (by simp), if_pos trivial]
  | true =>
    obtain ⟨h8, hf⟩ := b2 rfl
    rw [if_neg (by simp)]
    by_cases c1 : a1 < 1
    · rw [if_pos c1, if_pos trivial]
    rw [if_neg c1]
    by_cases c2 : 4096 < a1
    · rw [if_pos c2, if_pos trivial]
    rw [if_neg c2]
    by_cases c3 : 100 < (a2.length : Int)
    · rw [if_pos c3, if_pos trivial]
    rw [if_neg c3]
    by_cases c4 : a3 < 0
    · rw [if_pos c4, if_pos trivial]
    rw [if_neg c4]
    by_cases c5 : 3000 < a3
    · rw [if_pos (by simpa using c5)]
    rw [if_neg (by simpa using c5)]
    rcases run_f h8 hf with hr | ⟨hw, t, ht, ht0, hr⟩
    · rw [hr a1 a2 a3 (by omega) (by omega)]
      simp only [Option.bind_some, same_s none28 none28 (by simp), prefix_s none28 none28 (by simp)]
      have w0 : IntKind.i64.wrap 0 = 0 := rfl
      simp [w0]
      rw [if_pos (by omega), if_pos (by omega)]
    · obtain ⟨v, e, s', e1, e2, e3⟩ := (total hw (by omega) 100000).1 a3 (ts0 a1 a2 a3) t [] (iv0 (by omega) (by omega) (by omega)) (by omega) ht (by simp [ht0]) (by show 3 * (1000 - (0 : Int)) + 1 ≤ _; omega)
      have i1 := e2.pot; have i2 := e2.ld0; have i3 := e2.st0; have i4 := e2.f0; have i5 := e2.c; have i6 := e2.h1; have i7 := e2.h2
      have hlen : s'.o.length ≤ 140737488355328 := by omega
      rw [hr a1 a2 a3 (by omega) (by omega) v e s' e1]
      simp only [Option.bind_some, same_s ⟨s'.o, e, s'.ld, s'.st, s'.c⟩ ⟨s'.o, e, s'.ld, s'.st, s'.c⟩ hlen, prefix_s ⟨s'.o, e, s'.ld, s'.st, s'.c⟩ ⟨s'.o, e, s'.ld, s'.st, s'.c⟩ hlen]
      have w1 : IntKind.i64.wrap ((s'.o.length : Int) + s'.ld) = (s'.o.length : Int) + s'.ld := w64 (by omega) (by omega)
      have w2 : IntKind.i64.wrap ((s'.o.length : Int) + s'.ld + s'.st) = (s'.o.length : Int) + s'.ld + s'.st := w64 (by omega) (by omega)
      simp [w1, w2]
      rw [if_pos (by omega), if_pos (by omega), if_pos (by omega), if_pos (by omega), decide_eq_true (by omega)]
end Go.Proofs.Ytfmocegnpmomnaa.Sy
