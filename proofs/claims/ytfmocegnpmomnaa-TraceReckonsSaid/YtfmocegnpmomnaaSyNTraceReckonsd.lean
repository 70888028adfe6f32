/- Texts of this work, joined: SyF6, TrR. -/
import Derived.Test.YtfmocegnpmomnaaSyNTraceReckonsc
set_option linter.unusedVariables false
set_option linter.unusedSimpArgs false
set_option maxRecDepth 100000
set_option maxHeartbeats 4000000
namespace Go.Proofs.Ytfmocegnpmomnaa.Sy
open Go Go.RowKit Go.Proofs.YtfmocegnpmomnaaW.PrintWords 
def swagelaw15_TraceReckons.f (a0 : Int) (a1 : Int) (a2 : Int) : Option Bool := (swagelaw15_small.f).bind fun (y1 : Bool) => (word_Known.f a0).bind fun (y5 : Bool) => (if (!y5) = true then some y1 else (trace_Run.f ([(⟨0, ([(⟨([(⟨8, 1, 0, 0, 0, ([] : List Int)⟩ : S37), (⟨8, 2, 0, 0, 0, ([] : List Int)⟩ : S37), (⟨2, 3, 1, 2, a0, ([] : List Int)⟩ : S37), (⟨9, 0, 3, 0, 0, ([] : List Int)⟩ : S37)] : List S37), (⟨3, 3, 0, 0⟩ : S40)⟩ : S42)] : List S42)⟩ : S45)] : List S45) 2 ([a1, a2] : List Int) 9).bind fun (y34 : (S28 × Int)) => (word_Do.f a0 a1 a2).bind fun (y40 : (Int × Int)) => jn (γ := Bool) (fun (x47 : Bool) => (if x47 = true then some false else (if (!decide (y40.2 = 0)) = true then (if y1 = true then some (decide ((y34.1.f0.length : Int) = 0)) else some false) else (if y1 = true then (swageref02_Ints.f y34.1.f0 ([y40.1] : List Int)).bind fun (y100 : Bool) => some y100 else some false)))) (fun (j48 : (Bool → Option Bool)) => (if (!decide (y34.2 = 0)) = true then j48 true else j48 (!decide (y34.1.f1 = y40.2)))))
def swagelaw15_TraceReckons.post (G : Gd)  (r : Bool) (v : Value) (G' : Gd) (Lr : List Ch) : Prop := v = .bool r ∧ Lr = []
theorem swagelaw15_TraceReckons.calls {G : Gd} {r : Bool} {a0 : Int} {a1 : Int} {a2 : Int} (h : swagelaw15_TraceReckons.f a0 a1 a2 = some r) : Fn Try.prog 6 G [] [.int .i64 a0, .int .i64 a1, .int .i64 a2] (swagelaw15_TraceReckons.post G  r) := by
 refine Fn.intro (e := [(0, .int .i64 a0), (1, .int .i64 a1), (2, .int .i64 a2)]) 69 Try.func6 rfl Try.ntmps6 rfl rfl (Nat.le_of_ble_eq_true rfl) (fun L => ?_)
 unfold swagelaw15_TraceReckons.f at h
 refine TC.seq ?_
 refine TC.region ?_
 refine TL.cons (TO.val rfl rfl rfl (Val.assign rfl) ?_)
 refine TL.nil ?_
 refine TQ.then_ ?_
 refine TC.seq ?_
 refine TC.region ?_
 obtain ⟨y1, hy2, h⟩ := bind_no h
 refine TL.cons (TL.callV (Lin := []) (args := []) rfl rfl rfl hbd9 rfl rfl (swagelaw15_small.calls hy2) rfl ?_)
 rintro _ G3 _ e4 ⟨rfl, rfl⟩
 refine TL.cons (TO.val rfl rfl rfl (Val.assign rfl) ?_)
 refine TL.nil ?_
 refine TQ.then_ ?_
 refine TC.seq ?_
 refine TC.seq ?_
 refine TC.region ?_
 refine TL.cons (TO.val rfl rfl rfl (Val.move rfl) ?_)
 obtain ⟨y5, hy6, h⟩ := bind_no h
 refine TL.cons (TL.callV (Lin := []) (args := [.int .i64 a0]) rfl rfl rfl hbd18 rfl rfl (word_Known.calls (a0 := a0) hy6) rfl ?_)
 rintro _ _ _ _ ⟨rfl, rfl, rfl⟩
 refine TL.cons (TO.val rfl rfl rfl (Val.not_ rfl) ?_)
 refine TL.nil ?_
 refine TQ.then_ ?_
 refine TC.cond_b rfl h (fun hc8 h => ?_) (fun hc8 h => ?_)
 ·
  refine TC.seq ?_
  refine TC.region ?_
  refine TL.cons (TO.val rfl rfl rfl (Val.move rfl) ?_)
  refine TL.cons (TO.val rfl rfl rfl (Val.assign rfl) ?_)
  refine TL.nil ?_
  refine TQ.then_ ?_
  refine TC.ret ?_
  refine TQ.thenR ?_
  obtain rfl := Option.some.inj h
  exact TQ.fin (.inl rfl) rfl Try.results6 (.tmp rfl .nil) rfl (FRel.mk (Ls := []) [] 0 e4 rfl rfl rfl ⟨rfl, rfl⟩)
 ·
  refine TC.skip ?_
  refine TQ.then_ ?_
  refine TC.seq ?_
  refine TC.region ?_
  refine TL.cons (TO.val rfl rfl rfl (Val.build (cs := [.int .i64 8, .int .i64 1, .int .i64 0, .int .i64 0, .int .i64 0, .slice none 0 0]) (is := [0, 1]) (xs := [.const (.int .i64 8), .const (.int .i64 1)]) Try.underlying37 zr37 bld37 rfl rfl rfl rfl) ?_)
  refine TL.cons (TO.val rfl rfl rfl (Val.build (cs := [.int .i64 8, .int .i64 2, .int .i64 0, .int .i64 0, .int .i64 0, .slice none 0 0]) (is := [0, 1]) (xs := [.const (.int .i64 8), .const (.int .i64 2)]) Try.underlying37 zr37 bld37 rfl rfl rfl rfl) ?_)
  refine TL.cons (TO.val rfl rfl rfl (Val.move rfl) ?_)
  refine TL.cons (TO.val rfl rfl rfl (Val.build (cs := [.int .i64 2, .int .i64 3, .int .i64 1, .int .i64 2, .int .i64 a0, .slice none 0 0]) (is := [0, 1, 2, 3, 4]) (xs := [.const (.int .i64 2), .const (.int .i64 3), .const (.int .i64 1), .const (.int .i64 2), .tmp 20]) Try.underlying37 zr37 bld37 rfl rfl rfl rfl) ?_)
  refine TL.cons (TO.val rfl rfl rfl (Val.build (cs := [.int .i64 9, .int .i64 0, .int .i64 3, .int .i64 0, .int .i64 0, .slice none 0 0]) (is := [0, 2]) (xs := [.const (.int .i64 9), .const (.int .i64 3)]) Try.underlying37 zr37 bld37 rfl rfl rfl rfl) ?_)
  refine TL.cons (TL.buildSlice (xs := [.tmp 18, .tmp 19, .tmp 21, .tmp 22]) (vs := [.agg #[.int .i64 8, .int .i64 1, .int .i64 0, .int .i64 0, .int .i64 0, .slice none 0 0], .agg #[.int .i64 8, .int .i64 2, .int .i64 0, .int .i64 0, .int .i64 0, .slice none 0 0], .agg #[.int .i64 2, .int .i64 3, .int .i64 1, .int .i64 2, .int .i64 a0, .slice none 0 0], .agg #[.int .i64 9, .int .i64 0, .int .i64 3, .int .i64 0, .int .i64 0, .slice none 0 0]]) (cs := [.int .i64 8, .int .i64 1, .int .i64 0, .int .i64 0, .int .i64 0, .slice none 0 0, .int .i64 8, .int .i64 2, .int .i64 0, .int .i64 0, .int .i64 0, .slice none 0 0, .int .i64 2, .int .i64 3, .int .i64 1, .int .i64 2, .int .i64 a0, .slice none 0 0, .int .i64 9, .int .i64 0, .int .i64 3, .int .i64 0, .int .i64 0, .slice none 0 0]) rfl rfl Try.underlying38 zs37 rfl rfl rfl rfl rfl rfl rfl rfl (fun b9 => ?_))
  refine TL.cons (TO.val rfl rfl rfl (Val.build (cs := [.int .i64 3, .int .i64 3, .int .i64 0, .int .i64 0]) (is := [0, 1]) (xs := [.const (.int .i64 3), .const (.int .i64 3)]) Try.underlying40 zr40 bld40 rfl rfl rfl rfl) ?_)
  refine TL.cons (TO.val rfl rfl rfl (Val.build (cs := [.slice (some ⟨b9, 0, none⟩) 4 4, .int .i64 3, .int .i64 3, .int .i64 0, .int .i64 0]) (is := [0, 1]) (xs := [.tmp 23, .tmp 24]) Try.underlying42 zr42 bld42 rfl rfl rfl rfl) ?_)
  refine TL.cons (TL.buildSlice (xs := [.tmp 25]) (vs := [.agg #[.slice (some ⟨b9, 0, none⟩) 4 4, .int .i64 3, .int .i64 3, .int .i64 0, .int .i64 0]]) (cs := [.slice (some ⟨b9, 0, none⟩) 4 4, .int .i64 3, .int .i64 3, .int .i64 0, .int .i64 0]) rfl rfl Try.underlying43 zs42 rfl rfl rfl rfl rfl rfl rfl rfl (fun b10 => ?_))
  refine TL.cons (TO.val rfl rfl rfl (Val.build (cs := [.int .i64 0, .slice (some ⟨b10, 0, none⟩) 1 1]) (is := [1]) (xs := [.tmp 26]) Try.underlying45 zr45 bld45 rfl rfl rfl rfl) ?_)
  refine TL.cons (TL.alloc (cs := [.int .i64 0, .slice none 0 0]) rfl rfl zr45 rfl (fun b11 => ?_))
  refine TL.cons (TL.store 0 (ds := [.int .i64 0, .slice (some ⟨b10, 0, none⟩) 1 1]) (cs' := [.int .i64 0, .slice (some ⟨b10, 0, none⟩) 1 1]) (L' := (Blk b11 [.int .i64 0, .slice (some ⟨b10, 0, none⟩) 1 1] 45 :: Blk b10 [.slice (some ⟨b9, 0, none⟩) 4 4, .int .i64 3, .int .i64 3, .int .i64 0, .int .i64 0] 42 :: Blk b9 [.int .i64 8, .int .i64 1, .int .i64 0, .int .i64 0, .int .i64 0, .slice none 0 0, .int .i64 8, .int .i64 2, .int .i64 0, .int .i64 0, .int .i64 0, .slice none 0 0, .int .i64 2, .int .i64 3, .int .i64 1, .int .i64 2, .int .i64 a0, .slice none 0 0, .int .i64 9, .int .i64 0, .int .i64 3, .int .i64 0, .int .i64 0, .slice none 0 0] 37 :: L)) rfl fsz45 rfl rfl rfl rfl rfl (Nat.le_of_ble_eq_true rfl) rfl rfl ?_)
  refine TL.nil ?_
  refine TQ.then_ ?_
  refine TC.seq ?_
  refine TC.region ?_
  refine TL.cons (TO.val rfl rfl rfl (Val.loadsB 0 (cs := [.int .i64 0, .slice (some ⟨b10, 0, none⟩) 1 1]) agg45 fsz45 rfl rfl rfl rfl) ?_)
  refine TL.cons (TL.buildSlice (xs := [.tmp 29]) (vs := [.agg #[.int .i64 0, .slice (some ⟨b10, 0, none⟩) 1 1]]) (cs := [.int .i64 0, .slice (some ⟨b10, 0, none⟩) 1 1]) rfl rfl Try.underlying22 zs45 rfl rfl rfl rfl rfl rfl rfl rfl (fun b12 => ?_))
  refine TL.cons (TO.val rfl rfl rfl (Val.move rfl) ?_)
  refine TL.cons (TO.val rfl rfl rfl (Val.move rfl) ?_)
  refine TL.cons (TL.buildSlice (xs := [.tmp 31, .tmp 32]) (vs := [.int .i64 a1, .int .i64 a2]) (cs := [.int .i64 a1, .int .i64 a2]) rfl rfl Try.underlying23 zs3 rfl rfl rfl rfl rfl rfl rfl rfl (fun b13 => ?_))
  refine TK.new (Els.nil k37) ?_
  refine TK.new (Row.nil (Kd.int .i64) 3) ?_
  refine TK.conv (ch' := El k37 (⟨8, 1, 0, 0, 0, ([] : List Int)⟩ : S37) [.int .i64 8, .int .i64 1, .int .i64 0, .int .i64 0, .int .i64 0, .slice none 0 0]) (fun B W F hh => k37_mkM W B F (⟨8, 1, 0, 0, 0, ([] : List Int)⟩ : S37) hh) ?_
  refine TK.sel (Ls := [Els k37 [] [], El k37 (⟨8, 1, 0, 0, 0, ([] : List Int)⟩ : S37) [.int .i64 8, .int .i64 1, .int .i64 0, .int .i64 0, .int .i64 0, .slice none 0 0], Blk b13 [.int .i64 a1, .int .i64 a2] 3, Blk b12 [.int .i64 0, .slice (some ⟨b10, 0, none⟩) 1 1] 45, Blk b11 [.int .i64 0, .slice (some ⟨b10, 0, none⟩) 1 1] 45, Blk b10 [.slice (some ⟨b9, 0, none⟩) 4 4, .int .i64 3, .int .i64 3, .int .i64 0, .int .i64 0] 42, Blk b9 [.int .i64 8, .int .i64 1, .int .i64 0, .int .i64 0, .int .i64 0, .slice none 0 0, .int .i64 8, .int .i64 2, .int .i64 0, .int .i64 0, .int .i64 0, .slice none 0 0, .int .i64 2, .int .i64 3, .int .i64 1, .int .i64 2, .int .i64 a0, .slice none 0 0, .int .i64 9, .int .i64 0, .int .i64 3, .int .i64 0, .int .i64 0, .slice none 0 0] 37]) [1, 0, 2, 3, 4, 5, 6] 7 rfl rfl rfl ?_
  refine TK.two (ch := Els k37 [(⟨8, 1, 0, 0, 0, ([] : List Int)⟩ : S37)] [.int .i64 8, .int .i64 1, .int .i64 0, .int .i64 0, .int .i64 0, .slice none 0 0]) (Els.snoc k37) ?_
  refine TK.new (Row.nil (Kd.int .i64) 3) ?_
  refine TK.conv (ch' := El k37 (⟨8, 2, 0, 0, 0, ([] : List Int)⟩ : S37) [.int .i64 8, .int .i64 2, .int .i64 0, .int .i64 0, .int .i64 0, .slice none 0 0]) (fun B W F hh => k37_mkM W B F (⟨8, 2, 0, 0, 0, ([] : List Int)⟩ : S37) hh) ?_
  refine TK.sel (Ls := [Els k37 [(⟨8, 1, 0, 0, 0, ([] : List Int)⟩ : S37)] [.int .i64 8, .int .i64 1, .int .i64 0, .int .i64 0, .int .i64 0, .slice none 0 0], El k37 (⟨8, 2, 0, 0, 0, ([] : List Int)⟩ : S37) [.int .i64 8, .int .i64 2, .int .i64 0, .int .i64 0, .int .i64 0, .slice none 0 0], Blk b13 [.int .i64 a1, .int .i64 a2] 3, Blk b12 [.int .i64 0, .slice (some ⟨b10, 0, none⟩) 1 1] 45, Blk b11 [.int .i64 0, .slice (some ⟨b10, 0, none⟩) 1 1] 45, Blk b10 [.slice (some ⟨b9, 0, none⟩) 4 4, .int .i64 3, .int .i64 3, .int .i64 0, .int .i64 0] 42, Blk b9 [.int .i64 8, .int .i64 1, .int .i64 0, .int .i64 0, .int .i64 0, .slice none 0 0, .int .i64 8, .int .i64 2, .int .i64 0, .int .i64 0, .int .i64 0, .slice none 0 0, .int .i64 2, .int .i64 3, .int .i64 1, .int .i64 2, .int .i64 a0, .slice none 0 0, .int .i64 9, .int .i64 0, .int .i64 3, .int .i64 0, .int .i64 0, .slice none 0 0] 37]) [1, 0, 2, 3, 4, 5, 6] 7 rfl rfl rfl ?_
  refine TK.two (ch := Els k37 [(⟨8, 1, 0, 0, 0, ([] : List Int)⟩ : S37), (⟨8, 2, 0, 0, 0, ([] : List Int)⟩ : S37)] [.int .i64 8, .int .i64 1, .int .i64 0, .int .i64 0, .int .i64 0, .slice none 0 0, .int .i64 8, .int .i64 2, .int .i64 0, .int .i64 0, .int .i64 0, .slice none 0 0]) (Els.snoc k37) ?_
  refine TK.new (Row.nil (Kd.int .i64) 3) ?_
  refine TK.conv (ch' := El k37 (⟨2, 3, 1, 2, a0, ([] : List Int)⟩ : S37) [.int .i64 2, .int .i64 3, .int .i64 1, .int .i64 2, .int .i64 a0, .slice none 0 0]) (fun B W F hh => k37_mkM W B F (⟨2, 3, 1, 2, a0, ([] : List Int)⟩ : S37) hh) ?_
  refine TK.sel (Ls := [Els k37 [(⟨8, 1, 0, 0, 0, ([] : List Int)⟩ : S37), (⟨8, 2, 0, 0, 0, ([] : List Int)⟩ : S37)] [.int .i64 8, .int .i64 1, .int .i64 0, .int .i64 0, .int .i64 0, .slice none 0 0, .int .i64 8, .int .i64 2, .int .i64 0, .int .i64 0, .int .i64 0, .slice none 0 0], El k37 (⟨2, 3, 1, 2, a0, ([] : List Int)⟩ : S37) [.int .i64 2, .int .i64 3, .int .i64 1, .int .i64 2, .int .i64 a0, .slice none 0 0], Blk b13 [.int .i64 a1, .int .i64 a2] 3, Blk b12 [.int .i64 0, .slice (some ⟨b10, 0, none⟩) 1 1] 45, Blk b11 [.int .i64 0, .slice (some ⟨b10, 0, none⟩) 1 1] 45, Blk b10 [.slice (some ⟨b9, 0, none⟩) 4 4, .int .i64 3, .int .i64 3, .int .i64 0, .int .i64 0] 42, Blk b9 [.int .i64 8, .int .i64 1, .int .i64 0, .int .i64 0, .int .i64 0, .slice none 0 0, .int .i64 8, .int .i64 2, .int .i64 0, .int .i64 0, .int .i64 0, .slice none 0 0, .int .i64 2, .int .i64 3, .int .i64 1, .int .i64 2, .int .i64 a0, .slice none 0 0, .int .i64 9, .int .i64 0, .int .i64 3, .int .i64 0, .int .i64 0, .slice none 0 0] 37]) [1, 0, 2, 3, 4, 5, 6] 7 rfl rfl rfl ?_
  refine TK.two (ch := Els k37 [(⟨8, 1, 0, 0, 0, ([] : List Int)⟩ : S37), (⟨8, 2, 0, 0, 0, ([] : List Int)⟩ : S37), (⟨2, 3, 1, 2, a0, ([] : List Int)⟩ : S37)] [.int .i64 8, .int .i64 1, .int .i64 0, .int .i64 0, .int .i64 0, .slice none 0 0, .int .i64 8, .int .i64 2, .int .i64 0, .int .i64 0, .int .i64 0, .slice none 0 0, .int .i64 2, .int .i64 3, .int .i64 1, .int .i64 2, .int .i64 a0, .slice none 0 0]) (Els.snoc k37) ?_
  refine TK.new (Row.nil (Kd.int .i64) 3) ?_
  refine TK.conv (ch' := El k37 (⟨9, 0, 3, 0, 0, ([] : List Int)⟩ : S37) [.int .i64 9, .int .i64 0, .int .i64 3, .int .i64 0, .int .i64 0, .slice none 0 0]) (fun B W F hh => k37_mkM W B F (⟨9, 0, 3, 0, 0, ([] : List Int)⟩ : S37) hh) ?_
  refine TK.sel (Ls := [Els k37 [(⟨8, 1, 0, 0, 0, ([] : List Int)⟩ : S37), (⟨8, 2, 0, 0, 0, ([] : List Int)⟩ : S37), (⟨2, 3, 1, 2, a0, ([] : List Int)⟩ : S37)] [.int .i64 8, .int .i64 1, .int .i64 0, .int .i64 0, .int .i64 0, .slice none 0 0, .int .i64 8, .int .i64 2, .int .i64 0, .int .i64 0, .int .i64 0, .slice none 0 0, .int .i64 2, .int .i64 3, .int .i64 1, .int .i64 2, .int .i64 a0, .slice none 0 0], El k37 (⟨9, 0, 3, 0, 0, ([] : List Int)⟩ : S37) [.int .i64 9, .int .i64 0, .int .i64 3, .int .i64 0, .int .i64 0, .slice none 0 0], Blk b13 [.int .i64 a1, .int .i64 a2] 3, Blk b12 [.int .i64 0, .slice (some ⟨b10, 0, none⟩) 1 1] 45, Blk b11 [.int .i64 0, .slice (some ⟨b10, 0, none⟩) 1 1] 45, Blk b10 [.slice (some ⟨b9, 0, none⟩) 4 4, .int .i64 3, .int .i64 3, .int .i64 0, .int .i64 0] 42, Blk b9 [.int .i64 8, .int .i64 1, .int .i64 0, .int .i64 0, .int .i64 0, .slice none 0 0, .int .i64 8, .int .i64 2, .int .i64 0, .int .i64 0, .int .i64 0, .slice none 0 0, .int .i64 2, .int .i64 3, .int .i64 1, .int .i64 2, .int .i64 a0, .slice none 0 0, .int .i64 9, .int .i64 0, .int .i64 3, .int .i64 0, .int .i64 0, .slice none 0 0] 37]) [1, 0, 2, 3, 4, 5, 6] 7 rfl rfl rfl ?_
  refine TK.two (ch := Els k37 [(⟨8, 1, 0, 0, 0, ([] : List Int)⟩ : S37), (⟨8, 2, 0, 0, 0, ([] : List Int)⟩ : S37), (⟨2, 3, 1, 2, a0, ([] : List Int)⟩ : S37), (⟨9, 0, 3, 0, 0, ([] : List Int)⟩ : S37)] [.int .i64 8, .int .i64 1, .int .i64 0, .int .i64 0, .int .i64 0, .slice none 0 0, .int .i64 8, .int .i64 2, .int .i64 0, .int .i64 0, .int .i64 0, .slice none 0 0, .int .i64 2, .int .i64 3, .int .i64 1, .int .i64 2, .int .i64 a0, .slice none 0 0, .int .i64 9, .int .i64 0, .int .i64 3, .int .i64 0, .int .i64 0, .slice none 0 0]) (Els.snoc k37) ?_
  refine TK.sel (Ls := [Blk b9 [.int .i64 8, .int .i64 1, .int .i64 0, .int .i64 0, .int .i64 0, .slice none 0 0, .int .i64 8, .int .i64 2, .int .i64 0, .int .i64 0, .int .i64 0, .slice none 0 0, .int .i64 2, .int .i64 3, .int .i64 1, .int .i64 2, .int .i64 a0, .slice none 0 0, .int .i64 9, .int .i64 0, .int .i64 3, .int .i64 0, .int .i64 0, .slice none 0 0] 37, Els k37 [(⟨8, 1, 0, 0, 0, ([] : List Int)⟩ : S37), (⟨8, 2, 0, 0, 0, ([] : List Int)⟩ : S37), (⟨2, 3, 1, 2, a0, ([] : List Int)⟩ : S37), (⟨9, 0, 3, 0, 0, ([] : List Int)⟩ : S37)] [.int .i64 8, .int .i64 1, .int .i64 0, .int .i64 0, .int .i64 0, .slice none 0 0, .int .i64 8, .int .i64 2, .int .i64 0, .int .i64 0, .int .i64 0, .slice none 0 0, .int .i64 2, .int .i64 3, .int .i64 1, .int .i64 2, .int .i64 a0, .slice none 0 0, .int .i64 9, .int .i64 0, .int .i64 3, .int .i64 0, .int .i64 0, .slice none 0 0], Blk b13 [.int .i64 a1, .int .i64 a2] 3, Blk b12 [.int .i64 0, .slice (some ⟨b10, 0, none⟩) 1 1] 45, Blk b11 [.int .i64 0, .slice (some ⟨b10, 0, none⟩) 1 1] 45, Blk b10 [.slice (some ⟨b9, 0, none⟩) 4 4, .int .i64 3, .int .i64 3, .int .i64 0, .int .i64 0] 42]) [5, 0, 1, 2, 3, 4] 6 rfl rfl rfl ?_
  refine TK.two (ch := Row k37 37 (.slice (some ⟨b9, 0, none⟩) 4 4) ([(⟨8, 1, 0, 0, 0, ([] : List Int)⟩ : S37), (⟨8, 2, 0, 0, 0, ([] : List Int)⟩ : S37), (⟨2, 3, 1, 2, a0, ([] : List Int)⟩ : S37), (⟨9, 0, 3, 0, 0, ([] : List Int)⟩ : S37)] : List S37)) (Row.lit k37 rfl rfl) ?_
  refine TK.new (Els.nil k42) ?_
  refine TK.sel (Ls := [Row k37 37 (.slice (some ⟨b9, 0, none⟩) 4 4) ([(⟨8, 1, 0, 0, 0, ([] : List Int)⟩ : S37), (⟨8, 2, 0, 0, 0, ([] : List Int)⟩ : S37), (⟨2, 3, 1, 2, a0, ([] : List Int)⟩ : S37), (⟨9, 0, 3, 0, 0, ([] : List Int)⟩ : S37)] : List S37), Els k42 [] [], Blk b13 [.int .i64 a1, .int .i64 a2] 3, Blk b12 [.int .i64 0, .slice (some ⟨b10, 0, none⟩) 1 1] 45, Blk b11 [.int .i64 0, .slice (some ⟨b10, 0, none⟩) 1 1] 45, Blk b10 [.slice (some ⟨b9, 0, none⟩) 4 4, .int .i64 3, .int .i64 3, .int .i64 0, .int .i64 0] 42]) [1, 0, 2, 3, 4, 5] 6 rfl rfl rfl ?_
  refine TK.conv (ch' := El k42 (⟨([(⟨8, 1, 0, 0, 0, ([] : List Int)⟩ : S37), (⟨8, 2, 0, 0, 0, ([] : List Int)⟩ : S37), (⟨2, 3, 1, 2, a0, ([] : List Int)⟩ : S37), (⟨9, 0, 3, 0, 0, ([] : List Int)⟩ : S37)] : List S37), (⟨3, 3, 0, 0⟩ : S40)⟩ : S42) [.slice (some ⟨b9, 0, none⟩) 4 4, .int .i64 3, .int .i64 3, .int .i64 0, .int .i64 0]) (fun B W F hh => k42_mkM W B F (⟨([(⟨8, 1, 0, 0, 0, ([] : List Int)⟩ : S37), (⟨8, 2, 0, 0, 0, ([] : List Int)⟩ : S37), (⟨2, 3, 1, 2, a0, ([] : List Int)⟩ : S37), (⟨9, 0, 3, 0, 0, ([] : List Int)⟩ : S37)] : List S37), (⟨3, 3, 0, 0⟩ : S40)⟩ : S42) hh) ?_
  refine TK.sel (Ls := [Els k42 [] [], El k42 (⟨([(⟨8, 1, 0, 0, 0, ([] : List Int)⟩ : S37), (⟨8, 2, 0, 0, 0, ([] : List Int)⟩ : S37), (⟨2, 3, 1, 2, a0, ([] : List Int)⟩ : S37), (⟨9, 0, 3, 0, 0, ([] : List Int)⟩ : S37)] : List S37), (⟨3, 3, 0, 0⟩ : S40)⟩ : S42) [.slice (some ⟨b9, 0, none⟩) 4 4, .int .i64 3, .int .i64 3, .int .i64 0, .int .i64 0], Blk b13 [.int .i64 a1, .int .i64 a2] 3, Blk b12 [.int .i64 0, .slice (some ⟨b10, 0, none⟩) 1 1] 45, Blk b11 [.int .i64 0, .slice (some ⟨b10, 0, none⟩) 1 1] 45, Blk b10 [.slice (some ⟨b9, 0, none⟩) 4 4, .int .i64 3, .int .i64 3, .int .i64 0, .int .i64 0] 42]) [1, 0, 2, 3, 4, 5] 6 rfl rfl rfl ?_
  refine TK.two (ch := Els k42 [(⟨([(⟨8, 1, 0, 0, 0, ([] : List Int)⟩ : S37), (⟨8, 2, 0, 0, 0, ([] : List Int)⟩ : S37), (⟨2, 3, 1, 2, a0, ([] : List Int)⟩ : S37), (⟨9, 0, 3, 0, 0, ([] : List Int)⟩ : S37)] : List S37), (⟨3, 3, 0, 0⟩ : S40)⟩ : S42)] [.slice (some ⟨b9, 0, none⟩) 4 4, .int .i64 3, .int .i64 3, .int .i64 0, .int .i64 0]) (Els.snoc k42) ?_
  refine TK.sel (Ls := [Blk b10 [.slice (some ⟨b9, 0, none⟩) 4 4, .int .i64 3, .int .i64 3, .int .i64 0, .int .i64 0] 42, Els k42 [(⟨([(⟨8, 1, 0, 0, 0, ([] : List Int)⟩ : S37), (⟨8, 2, 0, 0, 0, ([] : List Int)⟩ : S37), (⟨2, 3, 1, 2, a0, ([] : List Int)⟩ : S37), (⟨9, 0, 3, 0, 0, ([] : List Int)⟩ : S37)] : List S37), (⟨3, 3, 0, 0⟩ : S40)⟩ : S42)] [.slice (some ⟨b9, 0, none⟩) 4 4, .int .i64 3, .int .i64 3, .int .i64 0, .int .i64 0], Blk b13 [.int .i64 a1, .int .i64 a2] 3, Blk b12 [.int .i64 0, .slice (some ⟨b10, 0, none⟩) 1 1] 45, Blk b11 [.int .i64 0, .slice (some ⟨b10, 0, none⟩) 1 1] 45]) [4, 0, 1, 2, 3] 5 rfl rfl rfl ?_
  refine TK.two (ch := Row k42 42 (.slice (some ⟨b10, 0, none⟩) 1 1) ([(⟨([(⟨8, 1, 0, 0, 0, ([] : List Int)⟩ : S37), (⟨8, 2, 0, 0, 0, ([] : List Int)⟩ : S37), (⟨2, 3, 1, 2, a0, ([] : List Int)⟩ : S37), (⟨9, 0, 3, 0, 0, ([] : List Int)⟩ : S37)] : List S37), (⟨3, 3, 0, 0⟩ : S40)⟩ : S42)] : List S42)) (Row.lit k42 rfl rfl) ?_
  refine TK.new (Els.nil k45) ?_
  refine TK.sel (Ls := [Row k42 42 (.slice (some ⟨b10, 0, none⟩) 1 1) ([(⟨([(⟨8, 1, 0, 0, 0, ([] : List Int)⟩ : S37), (⟨8, 2, 0, 0, 0, ([] : List Int)⟩ : S37), (⟨2, 3, 1, 2, a0, ([] : List Int)⟩ : S37), (⟨9, 0, 3, 0, 0, ([] : List Int)⟩ : S37)] : List S37), (⟨3, 3, 0, 0⟩ : S40)⟩ : S42)] : List S42), Els k45 [] [], Blk b13 [.int .i64 a1, .int .i64 a2] 3, Blk b12 [.int .i64 0, .slice (some ⟨b10, 0, none⟩) 1 1] 45, Blk b11 [.int .i64 0, .slice (some ⟨b10, 0, none⟩) 1 1] 45]) [1, 0, 2, 3, 4] 5 rfl rfl rfl ?_
  refine TK.conv (ch' := El k45 (⟨0, ([(⟨([(⟨8, 1, 0, 0, 0, ([] : List Int)⟩ : S37), (⟨8, 2, 0, 0, 0, ([] : List Int)⟩ : S37), (⟨2, 3, 1, 2, a0, ([] : List Int)⟩ : S37), (⟨9, 0, 3, 0, 0, ([] : List Int)⟩ : S37)] : List S37), (⟨3, 3, 0, 0⟩ : S40)⟩ : S42)] : List S42)⟩ : S45) [.int .i64 0, .slice (some ⟨b10, 0, none⟩) 1 1]) (fun B W F hh => k45_mkM W B F (⟨0, ([(⟨([(⟨8, 1, 0, 0, 0, ([] : List Int)⟩ : S37), (⟨8, 2, 0, 0, 0, ([] : List Int)⟩ : S37), (⟨2, 3, 1, 2, a0, ([] : List Int)⟩ : S37), (⟨9, 0, 3, 0, 0, ([] : List Int)⟩ : S37)] : List S37), (⟨3, 3, 0, 0⟩ : S40)⟩ : S42)] : List S42)⟩ : S45) hh) ?_
  refine TK.sel (Ls := [Els k45 [] [], El k45 (⟨0, ([(⟨([(⟨8, 1, 0, 0, 0, ([] : List Int)⟩ : S37), (⟨8, 2, 0, 0, 0, ([] : List Int)⟩ : S37), (⟨2, 3, 1, 2, a0, ([] : List Int)⟩ : S37), (⟨9, 0, 3, 0, 0, ([] : List Int)⟩ : S37)] : List S37), (⟨3, 3, 0, 0⟩ : S40)⟩ : S42)] : List S42)⟩ : S45) [.int .i64 0, .slice (some ⟨b10, 0, none⟩) 1 1], Blk b13 [.int .i64 a1, .int .i64 a2] 3, Blk b12 [.int .i64 0, .slice (some ⟨b10, 0, none⟩) 1 1] 45, Blk b11 [.int .i64 0, .slice (some ⟨b10, 0, none⟩) 1 1] 45]) [1, 0, 2, 3, 4] 5 rfl rfl rfl ?_
  refine TK.two (ch := Els k45 [(⟨0, ([(⟨([(⟨8, 1, 0, 0, 0, ([] : List Int)⟩ : S37), (⟨8, 2, 0, 0, 0, ([] : List Int)⟩ : S37), (⟨2, 3, 1, 2, a0, ([] : List Int)⟩ : S37), (⟨9, 0, 3, 0, 0, ([] : List Int)⟩ : S37)] : List S37), (⟨3, 3, 0, 0⟩ : S40)⟩ : S42)] : List S42)⟩ : S45)] [.int .i64 0, .slice (some ⟨b10, 0, none⟩) 1 1]) (Els.snoc k45) ?_
  refine TK.sel (Ls := [Blk b12 [.int .i64 0, .slice (some ⟨b10, 0, none⟩) 1 1] 45, Els k45 [(⟨0, ([(⟨([(⟨8, 1, 0, 0, 0, ([] : List Int)⟩ : S37), (⟨8, 2, 0, 0, 0, ([] : List Int)⟩ : S37), (⟨2, 3, 1, 2, a0, ([] : List Int)⟩ : S37), (⟨9, 0, 3, 0, 0, ([] : List Int)⟩ : S37)] : List S37), (⟨3, 3, 0, 0⟩ : S40)⟩ : S42)] : List S42)⟩ : S45)] [.int .i64 0, .slice (some ⟨b10, 0, none⟩) 1 1], Blk b13 [.int .i64 a1, .int .i64 a2] 3, Blk b11 [.int .i64 0, .slice (some ⟨b10, 0, none⟩) 1 1] 45]) [2, 0, 1, 3] 4 rfl rfl rfl ?_
  refine TK.two (ch := Row k45 45 (.slice (some ⟨b12, 0, none⟩) 1 1) ([(⟨0, ([(⟨([(⟨8, 1, 0, 0, 0, ([] : List Int)⟩ : S37), (⟨8, 2, 0, 0, 0, ([] : List Int)⟩ : S37), (⟨2, 3, 1, 2, a0, ([] : List Int)⟩ : S37), (⟨9, 0, 3, 0, 0, ([] : List Int)⟩ : S37)] : List S37), (⟨3, 3, 0, 0⟩ : S40)⟩ : S42)] : List S42)⟩ : S45)] : List S45)) (Row.lit k45 rfl rfl) ?_
  refine TK.share (fun G21 e22 hs23 hb24 => ?_)
  have rd25 : Rd G21 k45 (some ⟨b12, 0, none⟩) ([(⟨0, ([(⟨([(⟨8, 1, 0, 0, 0, ([] : List Int)⟩ : S37), (⟨8, 2, 0, 0, 0, ([] : List Int)⟩ : S37), (⟨2, 3, 1, 2, a0, ([] : List Int)⟩ : S37), (⟨9, 0, 3, 0, 0, ([] : List Int)⟩ : S37)] : List S37), (⟨3, 3, 0, 0⟩ : S40)⟩ : S42)] : List S42)⟩ : S45)] : List S45) := Rd.row hs23
  have le26 : ([(⟨0, ([(⟨([(⟨8, 1, 0, 0, 0, ([] : List Int)⟩ : S37), (⟨8, 2, 0, 0, 0, ([] : List Int)⟩ : S37), (⟨2, 3, 1, 2, a0, ([] : List Int)⟩ : S37), (⟨9, 0, 3, 0, 0, ([] : List Int)⟩ : S37)] : List S37), (⟨3, 3, 0, 0⟩ : S40)⟩ : S42)] : List S42)⟩ : S45)] : List S45).length ≤ 1 := Row.le hs23
  refine TK.new (Els.nil (Kd.int .i64)) ?_
  refine TK.new (El.of (k := (Kd.int .i64)) (xv := a1) (cs := [.int .i64 a1]) (fun W B => rfl)) ?_
  refine TK.sel (Ls := [Els (Kd.int .i64) [] [], El (Kd.int .i64) a1 [.int .i64 a1], Blk b13 [.int .i64 a1, .int .i64 a2] 3, Blk b11 [.int .i64 0, .slice (some ⟨b10, 0, none⟩) 1 1] 45]) [1, 0, 2, 3] 4 rfl rfl rfl ?_
  refine TK.two (ch := Els (Kd.int .i64) [a1] [.int .i64 a1]) (Els.snoc (Kd.int .i64)) ?_
  refine TK.new (El.of (k := (Kd.int .i64)) (xv := a2) (cs := [.int .i64 a2]) (fun W B => rfl)) ?_
  refine TK.sel (Ls := [Els (Kd.int .i64) [a1] [.int .i64 a1], El (Kd.int .i64) a2 [.int .i64 a2], Blk b13 [.int .i64 a1, .int .i64 a2] 3, Blk b11 [.int .i64 0, .slice (some ⟨b10, 0, none⟩) 1 1] 45]) [1, 0, 2, 3] 4 rfl rfl rfl ?_
  refine TK.two (ch := Els (Kd.int .i64) [a1, a2] [.int .i64 a1, .int .i64 a2]) (Els.snoc (Kd.int .i64)) ?_
  refine TK.sel (Ls := [Blk b13 [.int .i64 a1, .int .i64 a2] 3, Els (Kd.int .i64) [a1, a2] [.int .i64 a1, .int .i64 a2], Blk b11 [.int .i64 0, .slice (some ⟨b10, 0, none⟩) 1 1] 45]) [1, 0, 2] 3 rfl rfl rfl ?_
  refine TK.two (ch := Row (Kd.int .i64) 3 (.slice (some ⟨b13, 0, none⟩) 2 2) ([a1, a2] : List Int)) (Row.lit (Kd.int .i64) rfl rfl) ?_
  refine TK.share (fun G28 e29 hs30 hb31 => ?_)
  have rd32 : Rd G28 (Kd.int .i64) (some ⟨b13, 0, none⟩) ([a1, a2] : List Int) := Rd.row hs30
  have le33 : ([a1, a2] : List Int).length ≤ 2 := Row.le hs30
  obtain ⟨y34, hy35, h⟩ := bind_no h
  refine TL.cons (TL.callV (Lin := []) (args := [.slice (some ⟨b12, 0, none⟩) 1 1, .int .i64 2, .slice (some ⟨b13, 0, none⟩) 2 2, .int .i64 9]) rfl rfl rfl hbd11 rfl rfl (trace_Run.calls (a0 := ([(⟨0, ([(⟨([(⟨8, 1, 0, 0, 0, ([] : List Int)⟩ : S37), (⟨8, 2, 0, 0, 0, ([] : List Int)⟩ : S37), (⟨2, 3, 1, 2, a0, ([] : List Int)⟩ : S37), (⟨9, 0, 3, 0, 0, ([] : List Int)⟩ : S37)] : List S37), (⟨3, 3, 0, 0⟩ : S40)⟩ : S42)] : List S42)⟩ : S45)] : List S45)) (a1 := 2) (a2 := ([a1, a2] : List Int)) (a3 := 9) (rd25.up e29) le26 rd32 le33 hy35) rfl ?_)
  rintro _ _ _ _ ⟨rfl, A36, c37, rfl, rfl⟩
  refine TL.cons (TO.val rfl rfl rfl (Val.move rfl) ?_)
  refine TL.cons (TO.val rfl rfl rfl (Val.extract rfl rfl) ?_)
  refine TL.cons (TO.val rfl rfl rfl (Val.extract rfl rfl) ?_)
  refine TL.cons (TL.alloc (cs := [.slice none 0 0, .int .i64 0, .int .i64 0, .int .i64 0, .int .i64 0]) rfl rfl zr28 rfl (fun b39 => ?_))
  refine TL.cons (TL.store 0 (ds := [.slice A36 y34.1.f0.length c37, .int .i64 y34.1.f1, .int .i64 y34.1.f2, .int .i64 y34.1.f3, .int .i64 y34.1.f4]) (cs' := [.slice A36 y34.1.f0.length c37, .int .i64 y34.1.f1, .int .i64 y34.1.f2, .int .i64 y34.1.f3, .int .i64 y34.1.f4]) (L' := (Blk b39 [.slice A36 y34.1.f0.length c37, .int .i64 y34.1.f1, .int .i64 y34.1.f2, .int .i64 y34.1.f3, .int .i64 y34.1.f4] 28 :: Row (Kd.int .i64) 3 (.slice A36 y34.1.f0.length c37) y34.1.f0 :: Blk b11 [.int .i64 0, .slice (some ⟨b10, 0, none⟩) 1 1] 45 :: L)) rfl fsz28 rfl rfl rfl rfl rfl (Nat.le_of_ble_eq_true rfl) rfl rfl ?_)
  refine TL.cons (TO.val rfl rfl rfl (Val.assign rfl) ?_)
  refine TL.nil ?_
  refine TQ.then_ ?_
  refine TC.seq ?_
  refine TC.region ?_
  refine TL.cons (TO.val rfl rfl rfl (Val.move rfl) ?_)
  refine TL.cons (TO.val rfl rfl rfl (Val.move rfl) ?_)
  refine TL.cons (TO.val rfl rfl rfl (Val.move rfl) ?_)
  obtain ⟨y40, hy41, h⟩ := bind_no h
  refine TL.cons (TL.callV (Lin := []) (args := [.int .i64 a0, .int .i64 a1, .int .i64 a2]) rfl rfl rfl hbd19 rfl rfl (word_Do.calls (a0 := a0) (a1 := a1) (a2 := a2) hy41) rfl ?_)
  rintro _ _ _ _ ⟨rfl, rfl, rfl⟩
  refine TL.cons (TO.val rfl rfl rfl (Val.move rfl) ?_)
  refine TL.cons (TO.val rfl rfl rfl (Val.extract rfl rfl) ?_)
  refine TL.cons (TO.val rfl rfl rfl (Val.extract rfl rfl) ?_)
  refine TL.cons (TO.val rfl rfl rfl (Val.assign rfl) ?_)
  refine TL.cons (TO.val rfl rfl rfl (Val.assign rfl) ?_)
  refine TL.nil ?_
  refine TQ.then_ ?_
  refine TC.seq ?_
  refine TC.seq ?_
  refine TC.back hb31 ?_
  refine TC.back hb24 ?_
  obtain ⟨j48, hj48, h⟩ := jn_no h
  refine TC.tail (fun a W => ∃ (x47 : Bool) (G45 : Gd), j48 x47 = some r ∧ G.le G45 ∧ Fr 69 a [(7, .bool y1), (9, .pointer (some ⟨b39, 0, none⟩)), (11, .int .i64 y40.1), (12, .int .i64 y40.2), (51, .bool x47)] ∧ Own G45 (Blk b39 [.slice A36 y34.1.f0.length c37, .int .i64 y34.1.f1, .int .i64 y34.1.f2, .int .i64 y34.1.f3, .int .i64 y34.1.f4] 28 :: Row (Kd.int .i64) 3 (.slice A36 y34.1.f0.length c37) y34.1.f0 :: L) W) ?_ ?_
  ·
   rintro a W ⟨x47, G45, h, e46, hF, hO⟩
   rw [hj48] at h
   refine TQ.use ?_ hF hO
   clear hF hO
   refine TQ.then_ ?_
   refine TC.cond_b rfl h (fun hc50 h => ?_) (fun hc50 h => ?_)
   ·
    refine TC.seq ?_
    refine TC.region ?_
    refine TL.cons (TO.val rfl rfl rfl (Val.assign rfl) ?_)
    refine TL.nil ?_
    refine TQ.then_ ?_
    refine TC.ret ?_
    refine TQ.thenR ?_
    obtain rfl := Option.some.inj h
    exact TQ.fin (.inl rfl) rfl Try.results6 (.tmp rfl .nil) rfl (FRel.mk (Ls := []) [] 2 e46 rfl rfl rfl ⟨rfl, rfl⟩)
   ·
    refine TC.skip ?_
    refine TQ.then_ ?_
    refine TC.seq ?_
    refine TC.seq ?_
    refine TC.region ?_
    refine TL.cons (TO.val rfl rfl rfl (Val.move rfl) ?_)
    refine TL.cons (TO.val rfl rfl rfl (Val.cmp rfl rfl run_neq) ?_)
    refine TL.nil ?_
    refine TQ.then_ ?_
    refine TC.cond_b rfl h (fun hc58 h => ?_) (fun hc58 h => ?_)
    ·
     refine TC.seq ?_
     refine TC.region ?_
     refine TL.cons (TO.val rfl rfl rfl (Val.move rfl) ?_)
     refine TL.cons (TO.val rfl rfl rfl (Val.move rfl) ?_)
     refine TK.split (p := y1 = true) h (fun hg62 h => ?_) (fun hg62 h => ?_)
     ·
      have hk63 : y1 = true := hg62
      refine TL.cons (TO.val (Wt.yes rfl rfl rfl hk63) rfl rfl (Val.fieldAddrB Try.underlying28 rfl fsz23 rfl rfl rfl) ?_)
      refine TL.cons (TO.val (Wt.yes rfl rfl rfl hk63) rfl rfl (Val.loadB 0 agg23 rfl rfl rfl) ?_)
      refine TL.cons (TO.val (Wt.yes rfl rfl rfl hk63) rfl rfl (Val.len Try.underlying23 rfl) ?_)
      refine TL.cons (TO.val (Wt.yes rfl rfl rfl hk63) rfl rfl (Val.cmp rfl rfl run_eql) ?_)
      refine TL.cons (TO.val rfl rfl rfl (Val.pickY rfl hk63 rfl) ?_)
      refine TL.cons (TO.val rfl rfl rfl (Val.assign rfl) ?_)
      refine TL.nil ?_
      refine TQ.then_ ?_
      refine TC.ret ?_
      refine TQ.thenR ?_
      obtain rfl := Option.some.inj h
      exact TQ.fin (.inl rfl) rfl Try.results6 (.tmp rfl .nil) rfl (FRel.mk (Ls := []) [] 2 e46 rfl rfl rfl ⟨rfl, rfl⟩)
     ·
      have hk64 : y1 = false := (by simpa using hg62)
      refine TL.cons (TL.not (Wt.no rfl rfl rfl hk64) rfl ?_)
      refine TL.cons (TL.not (Wt.no rfl rfl rfl hk64) rfl ?_)
      refine TL.cons (TL.not (Wt.no rfl rfl rfl hk64) rfl ?_)
      refine TL.cons (TL.not (Wt.no rfl rfl rfl hk64) rfl ?_)
      refine TL.cons (TO.val rfl rfl rfl (Val.pickN rfl hk64 rfl) ?_)
      refine TL.cons (TO.val rfl rfl rfl (Val.assign rfl) ?_)
      refine TL.nil ?_
      refine TQ.then_ ?_
      refine TC.ret ?_
      refine TQ.thenR ?_
      obtain rfl := Option.some.inj h
      exact TQ.fin (.inl rfl) rfl Try.results6 (.tmp rfl .nil) rfl (FRel.mk (Ls := []) [] 2 e46 rfl rfl rfl ⟨rfl, rfl⟩)
    ·
     refine TC.skip ?_
     refine TQ.then_ ?_
     refine TC.seq ?_
     refine TC.region ?_
     refine TL.cons (TO.val rfl rfl rfl (Val.move rfl) ?_)
     refine TL.cons (TO.val rfl rfl rfl (Val.move rfl) ?_)
     refine TK.split (p := y1 = true) h (fun hg84 h => ?_) (fun hg84 h => ?_)
     ·
      have hk85 : y1 = true := hg84
      refine TL.cons (TO.val (Wt.yes rfl rfl rfl hk85) rfl rfl (Val.fieldAddrB Try.underlying28 rfl fsz23 rfl rfl rfl) ?_)
      refine TL.cons (TO.val (Wt.yes rfl rfl rfl hk85) rfl rfl (Val.loadB 0 agg23 rfl rfl rfl) ?_)
      refine TL.cons (TO.val (Wt.yes rfl rfl rfl hk85) rfl rfl (Val.move rfl) ?_)
      refine TL.cons (TL.buildSlice (xs := [.tmp 65]) (vs := [.int .i64 y40.1]) (cs := [.int .i64 y40.1]) (Wt.yes rfl rfl rfl hk85) rfl Try.underlying23 zs3 rfl rfl rfl rfl rfl rfl rfl rfl (fun b86 => ?_))
      refine TK.sel (Ls := [Row (Kd.int .i64) 3 (.slice A36 y34.1.f0.length c37) y34.1.f0, Blk b86 [.int .i64 y40.1] 3, Blk b39 [.slice A36 y34.1.f0.length c37, .int .i64 y34.1.f1, .int .i64 y34.1.f2, .int .i64 y34.1.f3, .int .i64 y34.1.f4] 28]) [2, 0, 1] 3 rfl rfl rfl ?_
      refine TK.share (fun G87 e88 hs89 hb90 => ?_)
      have rd91 : Rd G87 (Kd.int .i64) A36 y34.1.f0 := Rd.row hs89
      have le92 : y34.1.f0.length ≤ c37 := Row.le hs89
      refine TK.new (Els.nil (Kd.int .i64)) ?_
      refine TK.new (El.of (k := (Kd.int .i64)) (xv := y40.1) (cs := [.int .i64 y40.1]) (fun W B => rfl)) ?_
      refine TK.sel (Ls := [Els (Kd.int .i64) [] [], El (Kd.int .i64) y40.1 [.int .i64 y40.1], Blk b86 [.int .i64 y40.1] 3, Blk b39 [.slice A36 y34.1.f0.length c37, .int .i64 y34.1.f1, .int .i64 y34.1.f2, .int .i64 y34.1.f3, .int .i64 y34.1.f4] 28]) [1, 0, 2, 3] 4 rfl rfl rfl ?_
      refine TK.two (ch := Els (Kd.int .i64) [y40.1] [.int .i64 y40.1]) (Els.snoc (Kd.int .i64)) ?_
      refine TK.sel (Ls := [Blk b86 [.int .i64 y40.1] 3, Els (Kd.int .i64) [y40.1] [.int .i64 y40.1], Blk b39 [.slice A36 y34.1.f0.length c37, .int .i64 y34.1.f1, .int .i64 y34.1.f2, .int .i64 y34.1.f3, .int .i64 y34.1.f4] 28]) [1, 0, 2] 3 rfl rfl rfl ?_
      refine TK.two (ch := Row (Kd.int .i64) 3 (.slice (some ⟨b86, 0, none⟩) 1 1) ([y40.1] : List Int)) (Row.lit (Kd.int .i64) rfl rfl) ?_
      refine TK.share (fun G94 e95 hs96 hb97 => ?_)
      have rd98 : Rd G94 (Kd.int .i64) (some ⟨b86, 0, none⟩) ([y40.1] : List Int) := Rd.row hs96
      have le99 : ([y40.1] : List Int).length ≤ 1 := Row.le hs96
      obtain ⟨y100, hy101, h⟩ := bind_no h
      refine TL.cons (TL.callV (Lin := []) (args := [.slice A36 y34.1.f0.length c37, .slice (some ⟨b86, 0, none⟩) 1 1]) (Wt.yes rfl rfl rfl hk85) rfl rfl hbd14 rfl rfl (swageref02_Ints.calls (a0 := y34.1.f0) (a1 := ([y40.1] : List Int)) (rd91.up e95) le92 rd98 le99 hy101) rfl ?_)
      rintro _ _ _ _ ⟨rfl, rfl, rfl⟩
      refine TL.cons (TO.val rfl rfl rfl (Val.pickY rfl hk85 rfl) ?_)
      refine TL.cons (TO.val rfl rfl rfl (Val.assign rfl) ?_)
      refine TL.nil ?_
      refine TQ.then_ ?_
      refine TC.ret ?_
      refine TQ.back hb97 ?_
      refine TQ.back hb90 ?_
      obtain rfl := Option.some.inj h
      exact TQ.fin (.inl rfl) rfl Try.results6 (.tmp rfl .nil) rfl (FRel.mk (Ls := []) [] 3 e46 rfl rfl rfl ⟨rfl, rfl⟩)
     ·
      have hk102 : y1 = false := (by simpa using hg84)
      refine TL.cons (TL.not (Wt.no rfl rfl rfl hk102) rfl ?_)
      refine TL.cons (TL.not (Wt.no rfl rfl rfl hk102) rfl ?_)
      refine TL.cons (TL.not (Wt.no rfl rfl rfl hk102) rfl ?_)
      refine TL.cons (TL.not (Wt.no rfl rfl rfl hk102) rfl ?_)
      refine TL.cons (TL.not (Wt.no rfl rfl rfl hk102) rfl ?_)
      refine TL.cons (TO.val rfl rfl rfl (Val.pickN rfl hk102 rfl) ?_)
      refine TL.cons (TO.val rfl rfl rfl (Val.assign rfl) ?_)
      refine TL.nil ?_
      refine TQ.then_ ?_
      refine TC.ret ?_
      obtain rfl := Option.some.inj h
      exact TQ.fin (.inl rfl) rfl Try.results6 (.tmp rfl .nil) rfl (FRel.mk (Ls := []) [] 2 e46 rfl rfl rfl ⟨rfl, rfl⟩)
  ·
   refine TC.region ?_
   refine TL.cons (TO.val rfl rfl rfl (Val.move rfl) ?_)
   refine TL.cons (TO.val rfl rfl rfl (Val.cmp rfl rfl run_neq) ?_)
   refine TL.cons (TO.val rfl rfl rfl (Val.move rfl) ?_)
   refine TK.split (p := (!decide (y34.2 = 0)) = true) h (fun hg103 h => ?_) (fun hg103 h => ?_)
   ·
    have hk104 : (!decide (y34.2 = 0)) = true := hg103
    refine TL.cons (TL.not (Wt.no rfl rfl rfl hk104) rfl ?_)
    refine TL.cons (TL.not (Wt.no rfl rfl rfl hk104) rfl ?_)
    refine TL.cons (TL.not (Wt.no rfl rfl rfl hk104) rfl ?_)
    refine TL.cons (TL.not (Wt.no rfl rfl rfl hk104) rfl ?_)
    refine TL.cons (TO.val rfl rfl rfl (Val.pickY rfl hk104 rfl) ?_)
    refine TL.nil ?_
    exact fun a W hF hO => ⟨true, G3, h, e4, hF.sub ⟨rfl, rfl, rfl, rfl, rfl, trivial⟩, hO.selT (Ls := [Blk b39 [.slice A36 y34.1.f0.length c37, .int .i64 y34.1.f1, .int .i64 y34.1.f2, .int .i64 y34.1.f3, .int .i64 y34.1.f4] 28, Row (Kd.int .i64) 3 (.slice A36 y34.1.f0.length c37) y34.1.f0]) [2, 3] 5 rfl rfl rfl⟩
   ·
    have hk105 : (!decide (y34.2 = 0)) = false := (by simpa using hg103)
    refine TL.cons (TO.val (Wt.yes rfl rfl rfl hk105) rfl rfl (Val.fieldAddrB Try.underlying28 rfl fsz26 rfl rfl rfl) ?_)
    refine TL.cons (TO.val (Wt.yes rfl rfl rfl hk105) rfl rfl (Val.loadB 2 agg26 rfl rfl rfl) ?_)
    refine TL.cons (TO.val (Wt.yes rfl rfl rfl hk105) rfl rfl (Val.move rfl) ?_)
    refine TL.cons (TO.val (Wt.yes rfl rfl rfl hk105) rfl rfl (Val.cmp rfl rfl run_neq) ?_)
    refine TL.cons (TO.val rfl rfl rfl (Val.pickN rfl hk105 rfl) ?_)
    refine TL.nil ?_
    exact fun a W hF hO => ⟨(!decide (y34.1.f1 = y40.2)), G3, h, e4, hF.sub ⟨rfl, rfl, rfl, rfl, rfl, trivial⟩, hO.selT (Ls := [Blk b39 [.slice A36 y34.1.f0.length c37, .int .i64 y34.1.f1, .int .i64 y34.1.f2, .int .i64 y34.1.f3, .int .i64 y34.1.f4] 28, Row (Kd.int .i64) 3 (.slice A36 y34.1.f0.length c37) y34.1.f0]) [2, 3] 5 rfl rfl rfl⟩
end Go.Proofs.Ytfmocegnpmomnaa.Sy
set_option linter.unusedVariables false
set_option linter.unusedSimpArgs false
namespace Go.Proofs.Ytfmocegnpmomnaa.Sy
open Go Go.RowKit Go.Proofs.YtfmocegnpmomnaaW.PrintWords Go.Proofs.Ytfmocegnpmomnaa.SyO
theorem small15 : swagelaw15_small.f = some true := by decide +kernel
theorem callf_eq : trace_runner_call.f = trace_runner_call.g (trace_runner_call.fix 99999).1 (trace_runner_block.g (trace_runner_call.fix 99998).1 (trace_runner_call.fix 99998).2.1 (trace_runner_value.g (trace_runner_call.fix 99997).1 (trace_runner_call.fix 99997).2.1 (trace_runner_call.fix 99997).2.2)) (trace_runner_call.fix 99999).2.2 := rfl
/-- The law's function: two numbers are read, and reckoned with. -/
abbrev rkF (k : Int) : S45 := ⟨0, [(⟨[(⟨8, 1, 0, 0, 0, []⟩ : S37), (⟨8, 2, 0, 0, 0, []⟩ : S37), (⟨2, 3, 1, 2, k, []⟩ : S37), (⟨9, 0, 3, 0, 0, []⟩ : S37)], (⟨3, 3, 0, 0⟩ : S40)⟩ : S42)]⟩
theorem fourteen {n : Int} (h1 : 1 ≤ n) (h9 : n ≤ 14) : n = 1 ∨ n = 2 ∨ n = 3 ∨ n = 4 ∨ n = 5 ∨ n = 6 ∨ n = 7 ∨ n = 8 ∨ n = 9 ∨ n = 10 ∨ n = 11 ∨ n = 12 ∨ n = 13 ∨ n = 14 := by omega
theorem rk_prog {k : Int} (h1 : 1 ≤ k) (h2 : k ≤ 14) : code_Program.f [rkF k] = some true ∧ code_Regs.f (rkF k) = some 3 := by
  rcases fourteen h1 h2 with h | h | h | h | h | h | h | h | h | h | h | h | h | h <;> subst h <;> exact ⟨by decide +kernel, by decide +kernel⟩
theorem wrap_small {n : Int} (h0 : -1000000 ≤ n) (h1 : n ≤ 1000000) : IntKind.i64.wrap n = n := by
  rw [IntKind.wrap_i64]; omega
theorem rk_block {k a b n e : Int} (h : word_Do.f k a b = some (n, e)) (X3) (X4) (X5) (X6) (X7) : trace_runner_block.g X3 X4 (trace_runner_value.g X5 X6 X7) [rkF k] [0, 0] 1 2 [a, b] 9 1 [] 0 0 0 0 (⟨[(⟨8, 1, 0, 0, 0, []⟩ : S37), (⟨8, 2, 0, 0, 0, []⟩ : S37), (⟨2, 3, 1, 2, k, []⟩ : S37), (⟨9, 0, 3, 0, 0, []⟩ : S37)], (⟨3, 3, 0, 0⟩ : S40)⟩ : S42) [0, 0, 0, 0] =
    some (if e = 0 then (0, [0, 0], 1, [], 4, 1, [n], 0, 0, 0, [0, a, b, n]) else (e, [0, 0], 1, [], 6, 1, [], 0, 0, 0, [0, a, b, 0])) := by
  by_cases he : e = 0
  · subst he
    simp [at?, wrap_small, trace_runner_block.g, trace_runner_block.l0, trace_runner_pay.f, trace_runner_value.g, trace_runner_read.f, jn, cut?, h]
  · simp [at?, wrap_small, trace_runner_block.g, trace_runner_block.l0, trace_runner_pay.f, trace_runner_value.g, trace_runner_read.f, jn, cut?, h, he]
theorem rk_run {k a b n e : Int} (h1 : 1 ≤ k) (h2 : k ≤ 14) (h : word_Do.f k a b = some (n, e)) : trace_Run.f [rkF k] 2 [a, b] 9 = some (⟨if e = 0 then [n] else [], e, 0, 0, 0⟩, 0) := by
  obtain ⟨hp, hr⟩ := rk_prog h1 h2
  have hb := rk_block h (trace_runner_call.fix 99998).1 (trace_runner_call.fix 99998).2.1 (trace_runner_call.fix 99997).1 (trace_runner_call.fix 99997).2.1 (trace_runner_call.fix 99997).2.2
  have hc := callf_eq
  generalize trace_runner_block.g (trace_runner_call.fix 99998).1 (trace_runner_call.fix 99998).2.1 (trace_runner_value.g (trace_runner_call.fix 99997).1 (trace_runner_call.fix 99997).2.1 (trace_runner_call.fix 99997).2.2) = BB at hb hc
  generalize (trace_runner_call.fix 99999).1 = X1 at hc
  generalize (trace_runner_call.fix 99999).2.2 = X2 at hc
  have hl : trace_runner_call.l0 BB [rkF k] 2 0 (rkF k) 100000 [0, 0, 0, 0] 0 [a, b] 9 1 [] 0 0 0 [0, 0] 1 = some (if e = 0 then (n, 0, [0, 0], 1, [], 4, 0, [n], 0, 0, 0) else (0, e, [0, 0], 1, [], 6, 0, [], 0, 0, 0)) := by
    rw [trace_runner_call.l0]
    have ha : at? (rkF k).f1 0 = some (⟨[(⟨8, 1, 0, 0, 0, []⟩ : S37), (⟨8, 2, 0, 0, 0, []⟩ : S37), (⟨2, 3, 1, 2, k, []⟩ : S37), (⟨9, 0, 3, 0, 0, []⟩ : S37)], (⟨3, 3, 0, 0⟩ : S40)⟩ : S42) := rfl
    rw [ha, Option.bind_some, hb, Option.bind_some]
    by_cases he : e = 0
    · simp [he, at?, wrap_small]
    · simp [he, wrap_small]
  unfold trace_Run.f
  rw [hc]
  simp only [jn, hp, Option.bind_some]
  have ha : at? [rkF k] 0 = some (rkF k) := rfl
  have hrep : List.replicate (2 : Int).toNat (0 : Int) = [0, 0] := rfl
  have hcpy : cpyL (List.replicate (IntKind.i64.wrap (3 + 1)).toNat (0 : Int)) 1 ((List.replicate (IntKind.i64.wrap (3 + 1)).toNat (0 : Int)).length : Int) [] = [0, 0, 0, 0] := by decide +kernel
  have hw : IntKind.i64.wrap (3 + 1) = 4 := by decide +kernel
  have hw1 : IntKind.i64.wrap (0 + 1) = 1 := by decide +kernel
  rw [if_neg (by omega)]
  simp only [show ¬ ((1048576 : Int) < 2) by omega, decide_false, Bool.false_eq_true, if_false]
  rw [if_pos (by omega)]
  simp only [Bool.not_true, Bool.false_eq_true, if_false, ha, Option.bind_some, hrep]
  unfold trace_runner_call.g
  rw [if_neg (by omega), hr, Option.bind_some, if_pos (by rw [hw]; omega), if_pos (by rw [hw]; decide), hcpy, Option.bind_some, hw1, hl]
  by_cases he : e = 0
  · simp [he]
  · simp [he]
theorem flag_f (b : Bool) : ∃ n, word_flag.f b = some n := by unfold word_flag.f; split <;> exact ⟨_, rfl⟩
theorem cmp_f (a b : Int) : ∃ n, cmp_Compare_int.f a b = some n := by
  unfold cmp_Compare_int.f
  simp only [cmp_isNaN_int.f, jn, Option.bind_some]
  repeat' (first | exact ⟨_, rfl⟩ | split)
theorem ordered_f (k a b : Int) : ∃ n, word_ordered_int.f k a b = some n := by
  obtain ⟨c, hc⟩ := cmp_f a b
  unfold word_ordered_int.f
  rw [hc, Option.bind_some]
  obtain ⟨n1, e1⟩ := flag_f (decide (c < 0))
  obtain ⟨n2, e2⟩ := flag_f (decide (c ≤ 0))
  obtain ⟨n3, e3⟩ := flag_f (decide (c = 0))
  obtain ⟨n4, e4⟩ := flag_f (!decide (c = 0))
  rw [e1, e2, e3, e4]
  simp only [Option.bind_some]
  repeat' (first | exact ⟨_, rfl⟩ | split)
theorem plain_f (k a b : Int) : ∃ n, word_plain.f k a b = some n := by
  obtain ⟨c, hc⟩ := ordered_f k a b
  unfold word_plain.f
  rw [hc]
  simp only [Option.bind_some]
  repeat' (first | exact ⟨_, rfl⟩ | split)
theorem moved_f (k a b : Int) : ∃ n, word_moved.f k a b = some n := by
  have h : ¬ IntKind.u64.wrap (if 64 < b then 64 else b) < 0 := by
    have : IntKind.u64.wrap (if 64 < b then 64 else b) = (if 64 < b then 64 else b) % 18446744073709551616 := rfl
    rw [this]; omega
  unfold word_moved.f
  rw [if_pos h, if_pos h]
  split <;> exact ⟨_, rfl⟩
theorem divided_f (k a b : Int) (h : ¬ b = 0) : ∃ n, word_divided.f k a b = some n := by
  unfold word_divided.f
  rw [if_pos h, if_pos h]
  split <;> exact ⟨_, rfl⟩
theorem do_f (k a b : Int) : ∃ n e, word_Do.f k a b = some (n, e) := by
  obtain ⟨c1, h1⟩ := plain_f k a b
  obtain ⟨c2, h2⟩ := moved_f k a b
  have hk : ∃ w, word_Known.f k = some w := by unfold word_Known.f; split <;> exact ⟨_, rfl⟩
  obtain ⟨w, hw⟩ := hk
  unfold word_Do.f
  simp only [jn, h1, h2, hw, Option.bind_some]
  by_cases hb : b = 0
  · simp only [hb, if_true]; repeat' (first | exact ⟨_, _, rfl⟩ | split)
  · obtain ⟨c3, h3⟩ := divided_f k a b hb
    simp only [h3, Option.bind_some]
    repeat' (first | exact ⟨_, _, rfl⟩ | split)
theorem ints1 (n : Int) : swageref02_Ints.f [n] [n] = some true := by
  simp [swageref02_Ints.f, swageref02_Ints.l0, at?, wrap_small]
theorem traceReckons_law (a0 a1 a2 : Int) (h0 : (Lit.int .i64 a0).wf = true) (h1 : (Lit.int .i64 a1).wf = true) (h2 : (Lit.int .i64 a2).wf = true) : swagelaw15_TraceReckons.f a0 a1 a2 = some true := by
  unfold swagelaw15_TraceReckons.f
  rw [small15, Option.bind_some]
  have hk : word_Known.f a0 = some (decide (1 ≤ a0 ∧ a0 ≤ 14)) := by
    unfold word_Known.f
    by_cases h : 1 ≤ a0 <;> simp [h]
  rw [hk, Option.bind_some]
  by_cases hh : 1 ≤ a0 ∧ a0 ≤ 14
  · rw [decide_eq_true hh, if_neg (by simp)]
    obtain ⟨n, e, hd⟩ := do_f a0 a1 a2
    have hr := rk_run hh.1 hh.2 hd
    rw [hr, Option.bind_some, hd, Option.bind_some]
    by_cases he : e = 0
    · subst he
      simp [jn, ints1]
    · simp [jn, he]
  · rw [decide_eq_false hh, if_pos (by simp)]
end Go.Proofs.Ytfmocegnpmomnaa.Sy
