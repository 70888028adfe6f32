/- Texts of this work, joined: SyF6, TyP. -/
import Derived.Test.YtdklnjmdaecboaaDoorSyNTypesPointc
set_option linter.unusedVariables false
set_option linter.unusedSimpArgs false
set_option maxRecDepth 100000
set_option maxHeartbeats 4000000
namespace Go.Proofs.YtdklnjmdaecboaaDoor.Sy
open Go Go.RowKit Go.Proofs.YtdklnjmdaecboaaDoorW.PrintWords 
def swagelaw11_TypesPoint.f (a0 : S24) (a1 : Int) : Option Bool := (swagelaw11_small.f).bind fun (y6 : Bool) => (swagelaw11_Few.f a0).bind fun (y8 : Bool) => jn (γ := Bool) (fun (x21 : Bool) => (if x21 = true then some y6 else (types_Pointer.f a0).bind fun (y25 : S24) => (types_Copy.f a0).bind fun (y31 : S24) => jn (γ := Bool) (fun (l88 : (List S24)) => jn (γ := Bool) (fun (x303 : Bool) => (if x303 = true then some false else (types_Size.f a0).bind fun (y307 : Int) => (if y6 = true then (types_Size.f a0).bind fun (y509 : Int) => (if 1 ≤ y509 then (types_Right.f (⟨3, a1, ([y31] : List S24)⟩ : S24)).bind fun (y513 : Bool) => (if (!y513) = true then (types_Right.f (⟨4, 0, l88⟩ : S24)).bind fun (y517 : Bool) => (types_Right.f y25).bind fun (y519 : Bool) => (if y519 = true then (types_Size.f a0).bind fun (y523 : Int) => some (y517 == (decide ((IntKind.i64.wrap (2 * y523)) ≤ 1048576))) else some (y517 == false)) else (if (IntKind.i64.wrap (a1 * y307)) ≤ 1048576 then (types_Right.f (⟨4, 0, l88⟩ : S24)).bind fun (y529 : Bool) => (types_Right.f y25).bind fun (y531 : Bool) => (if y531 = true then (types_Size.f a0).bind fun (y535 : Int) => some (y529 == (decide ((IntKind.i64.wrap (2 * y535)) ≤ 1048576))) else some (y529 == false)) else some false)) else some false) else some false))) (fun (j304 : (Bool → Option Bool)) => (types_Right.f y25).bind fun (y676 : Bool) => (if y676 = true then (types_Scalar.f y25).bind fun (y680 : Bool) => (if (!y680) = true then j304 true else (types_Size.f y25).bind fun (y685 : Int) => (if (!decide (y685 = 1)) = true then j304 true else (types_Right.f (⟨3, a1, ([y31] : List S24)⟩ : S24)).bind fun (y690 : Bool) => (if y690 = true then (types_Size.f (⟨3, a1, ([y31] : List S24)⟩ : S24)).bind fun (y694 : Int) => (types_Size.f a0).bind fun (y696 : Int) => (if (!decide (y694 = (IntKind.i64.wrap (a1 * y696)))) = true then j304 true else (types_Right.f (⟨4, 0, l88⟩ : S24)).bind fun (y701 : Bool) => (if y701 = true then (types_Size.f (⟨4, 0, l88⟩ : S24)).bind fun (y705 : Int) => (types_Size.f a0).bind fun (y707 : Int) => j304 (!decide (y705 = (IntKind.i64.wrap (2 * y707)))) else j304 false)) else (types_Right.f (⟨4, 0, l88⟩ : S24)).bind fun (y711 : Bool) => (if y711 = true then (types_Size.f (⟨4, 0, l88⟩ : S24)).bind fun (y715 : Int) => (types_Size.f a0).bind fun (y717 : Int) => j304 (!decide (y715 = (IntKind.i64.wrap (2 * y717)))) else j304 false)))) else (types_Right.f (⟨3, a1, ([y31] : List S24)⟩ : S24)).bind fun (y721 : Bool) => (if y721 = true then (types_Size.f (⟨3, a1, ([y31] : List S24)⟩ : S24)).bind fun (y725 : Int) => (types_Size.f a0).bind fun (y727 : Int) => (if (!decide (y725 = (IntKind.i64.wrap (a1 * y727)))) = true then j304 true else (types_Right.f (⟨4, 0, l88⟩ : S24)).bind fun (y732 : Bool) => (if y732 = true then (types_Size.f (⟨4, 0, l88⟩ : S24)).bind fun (y736 : Int) => (types_Size.f a0).bind fun (y738 : Int) => j304 (!decide (y736 = (IntKind.i64.wrap (2 * y738)))) else j304 false)) else (types_Right.f (⟨4, 0, l88⟩ : S24)).bind fun (y742 : Bool) => (if y742 = true then (types_Size.f (⟨4, 0, l88⟩ : S24)).bind fun (y746 : Int) => (types_Size.f a0).bind fun (y748 : Int) => j304 (!decide (y746 = (IntKind.i64.wrap (2 * y748)))) else j304 false))))) (fun (j92 : ((List S24) → Option Bool)) => (types_Copy.f a0).bind fun (y764 : S24) => (types_Copy.f a0).bind fun (y769 : S24) => j92 ([y764, y769] : List S24)))) (fun (j22 : (Bool → Option Bool)) => (if (!y8) = true then j22 true else (types_Right.f a0).bind fun (y804 : Bool) => (if (!y804) = true then j22 true else (if a1 < 1 then j22 true else j22 (decide (1000 < a1))))))
def swagelaw11_TypesPoint.post (G : Gd) (r : Bool) (v : Value) (G' : Gd) (Lr : List Ch) : Prop := G = G' ∧ v = .bool r ∧ Lr = []
theorem swagelaw11_TypesPoint.calls {G : Gd} {r : Bool} {a0 : S24} {a1 : Int} {A1 : Option Addr} {c2 : Nat} (ht : Tab G) (hr3 : Rd G k24 A1 a0.f2) (hl4 : a0.f2.length ≤ c2) (h : swagelaw11_TypesPoint.f a0 a1 = some r) : Fn Tryd.prog 6 G [] [.agg #[.int .i64 a0.f0, .int .i64 a0.f1, .slice A1 a0.f2.length c2], .int .i64 a1] (swagelaw11_TypesPoint.post G r) := by
 refine Fn.intro (e := [(0, .agg #[.int .i64 a0.f0, .int .i64 a0.f1, .slice A1 a0.f2.length c2]), (1, .int .i64 a1)]) 112 Tryd.func6 rfl Tryd.ntmps6 rfl rfl (Nat.le_of_ble_eq_true rfl) (fun L => ?_)
 unfold swagelaw11_TypesPoint.f at h
 refine TC.seq ?_
 refine TC.region ?_
 refine TL.cons (TL.box (cs := [.int .i64 a0.f0, .int .i64 a0.f1, .slice A1 a0.f2.length c2]) rfl rfl rfl rfl (fun b5 => ?_))
 refine TL.cons (TO.val rfl rfl rfl (Val.assign rfl) ?_)
 refine TL.nil ?_
 refine TQ.then_ ?_
 refine TC.seq ?_
 refine TC.region ?_
 obtain ⟨y6, hy7, h⟩ := bind_no h
 refine TL.cons (TL.callV (Lin := []) (args := []) rfl rfl rfl hbd7 rfl rfl (swagelaw11_small.calls ht hy7) rfl ?_)
 rintro _ _ _ _ ⟨rfl, rfl, rfl⟩
 refine TL.cons (TO.val rfl rfl rfl (Val.assign rfl) ?_)
 refine TL.nil ?_
 refine TQ.then_ ?_
 refine TC.seq ?_
 refine TC.region ?_
 refine TL.cons (TO.val rfl rfl rfl (Val.loadsB 0 (cs := [.int .i64 a0.f0, .int .i64 a0.f1, .slice A1 a0.f2.length c2]) agg24 fsz24 rfl rfl rfl rfl) ?_)
 obtain ⟨y8, hy9, h⟩ := bind_no h
 refine TL.cons (TL.callV (Lin := []) (args := [.agg #[.int .i64 a0.f0, .int .i64 a0.f1, .slice A1 a0.f2.length c2]]) rfl rfl rfl hbd8 rfl rfl (swagelaw11_Few.calls (a0 := a0) hr3 hl4 hy9) rfl ?_)
 rintro _ _ _ _ ⟨rfl, rfl, rfl⟩
 refine TL.cons (TO.val rfl rfl rfl (Val.assign rfl) ?_)
 refine TL.nil ?_
 refine TQ.then_ ?_
 refine TC.seq ?_
 refine TC.seq ?_
 obtain ⟨j22, hj22, h⟩ := jn_no h
 refine TC.tail (fun a W => ∃ (x21 : Bool), j22 x21 = some r ∧ Fr 112 a [(1, .int .i64 a1), (2, .pointer (some ⟨b5, 0, none⟩)), (5, .bool y6), (28, .bool x21)] ∧ Own G (Blk b5 [.int .i64 a0.f0, .int .i64 a0.f1, .slice A1 a0.f2.length c2] 24 :: L) W) ?_ ?_
 ·
  rintro a W ⟨x21, h, hF, hO⟩
  rw [hj22] at h
  refine TQ.use ?_ hF hO
  clear hF hO
  refine TQ.then_ ?_
  refine TC.cond_b rfl h (fun hc24 h => ?_) (fun hc24 h => ?_)
  ·
   refine TC.seq ?_
   refine TC.region ?_
   refine TL.cons (TO.val rfl rfl rfl (Val.move rfl) ?_)
   refine TL.cons (TO.val rfl rfl rfl (Val.assign rfl) ?_)
   refine TL.nil ?_
   refine TQ.then_ ?_
   refine TC.ret ?_
   refine TQ.thenR ?_
   obtain rfl := Option.some.inj h
   exact TQ.fin (.inl rfl) rfl Tryd.results6 (.tmp rfl .nil) rfl (FRel.mk (Ls := []) [] 1 (Gd.le.refl _) rfl rfl rfl ⟨rfl, rfl, rfl⟩)
  ·
   refine TC.skip ?_
   refine TQ.then_ ?_
   refine TC.seq ?_
   refine TC.region ?_
   refine TL.cons (TO.val rfl rfl rfl (Val.loadsB 0 (cs := [.int .i64 a0.f0, .int .i64 a0.f1, .slice A1 a0.f2.length c2]) agg24 fsz24 rfl rfl rfl rfl) ?_)
   obtain ⟨y25, hy26, h⟩ := bind_no h
   refine TL.cons (TL.callV (Lin := []) (args := [.agg #[.int .i64 a0.f0, .int .i64 a0.f1, .slice A1 a0.f2.length c2]]) rfl rfl rfl hbd11 rfl rfl (types_Pointer.calls (a0 := a0) hr3 hl4 hy26) rfl ?_)
   rintro _ _ _ _ ⟨rfl, A27, c28, rfl, rfl⟩
   refine TL.cons (TL.alloc (cs := [.int .i64 0, .int .i64 0, .slice none 0 0]) rfl rfl zr24 rfl (fun b30 => ?_))
   refine TL.cons (TL.store 0 (ds := [.int .i64 y25.f0, .int .i64 y25.f1, .slice A27 y25.f2.length c28]) (cs' := [.int .i64 y25.f0, .int .i64 y25.f1, .slice A27 y25.f2.length c28]) (L' := (Blk b30 [.int .i64 y25.f0, .int .i64 y25.f1, .slice A27 y25.f2.length c28] 24 :: Row k24 24 (.slice A27 y25.f2.length c28) y25.f2 :: Blk b5 [.int .i64 a0.f0, .int .i64 a0.f1, .slice A1 a0.f2.length c2] 24 :: L)) rfl fsz24 rfl rfl rfl rfl rfl (Nat.le_of_ble_eq_true rfl) rfl rfl ?_)
   refine TL.nil ?_
   refine TQ.then_ ?_
   refine TC.seq ?_
   refine TC.region ?_
   refine TL.cons (TO.val rfl rfl rfl (Val.move rfl) ?_)
   refine TL.cons (TO.val rfl rfl rfl (Val.loadsB 2 (cs := [.int .i64 a0.f0, .int .i64 a0.f1, .slice A1 a0.f2.length c2]) agg24 fsz24 rfl rfl rfl rfl) ?_)
   obtain ⟨y31, hy32, h⟩ := bind_no h
   refine TL.cons (TL.callV (Lin := []) (args := [.agg #[.int .i64 a0.f0, .int .i64 a0.f1, .slice A1 a0.f2.length c2]]) rfl rfl rfl hbd10 rfl rfl (types_Copy.calls (a0 := a0) hr3 hl4 hy32) rfl ?_)
   rintro _ _ _ _ ⟨rfl, A33, c34, rfl, rfl⟩
   refine TL.cons (TL.buildSlice (xs := [.tmp 34]) (vs := [.agg #[.int .i64 y31.f0, .int .i64 y31.f1, .slice A33 y31.f2.length c34]]) (cs := [.int .i64 y31.f0, .int .i64 y31.f1, .slice A33 y31.f2.length c34]) rfl rfl Tryd.underlying22 zs24 rfl rfl rfl rfl rfl rfl rfl rfl (fun b36 => ?_))
   refine TL.cons (TO.val rfl rfl rfl (Val.build (cs := [.int .i64 3, .int .i64 a1, .slice (some ⟨b36, 0, none⟩) 1 1]) (is := [0, 1, 2]) (xs := [.const (.int .i64 3), .tmp 32, .tmp 35]) Tryd.underlying24 zr24 bld24 rfl rfl rfl rfl) ?_)
   refine TL.cons (TL.alloc (cs := [.int .i64 0, .int .i64 0, .slice none 0 0]) rfl rfl zr24 rfl (fun b37 => ?_))
   refine TL.cons (TL.store 0 (ds := [.int .i64 3, .int .i64 a1, .slice (some ⟨b36, 0, none⟩) 1 1]) (cs' := [.int .i64 3, .int .i64 a1, .slice (some ⟨b36, 0, none⟩) 1 1]) (L' := (Blk b37 [.int .i64 3, .int .i64 a1, .slice (some ⟨b36, 0, none⟩) 1 1] 24 :: Blk b36 [.int .i64 y31.f0, .int .i64 y31.f1, .slice A33 y31.f2.length c34] 24 :: Row k24 24 (.slice A33 y31.f2.length c34) y31.f2 :: Blk b30 [.int .i64 y25.f0, .int .i64 y25.f1, .slice A27 y25.f2.length c28] 24 :: Row k24 24 (.slice A27 y25.f2.length c28) y25.f2 :: Blk b5 [.int .i64 a0.f0, .int .i64 a0.f1, .slice A1 a0.f2.length c2] 24 :: L)) rfl fsz24 rfl rfl rfl rfl rfl (Nat.le_of_ble_eq_true rfl) rfl rfl ?_)
   refine TL.nil ?_
   refine TQ.then_ ?_
   refine TC.seq ?_
   obtain ⟨j92, hj92, h⟩ := jn_no h
   refine TC.tail (fun a W => ∃ (l88 : (List S24)) (b84 : Nat) (A85 : Option Addr) (c86 : Nat) (A89 : Option Addr) (c90 : Nat), j92 l88 = some r ∧ Fr 112 a [(1, .int .i64 a1), (2, .pointer (some ⟨b5, 0, none⟩)), (5, .bool y6), (7, .pointer (some ⟨b30, 0, none⟩)), (8, .pointer (some ⟨b37, 0, none⟩)), (9, .pointer (some ⟨b84, 0, none⟩))] ∧ Own G (Blk b30 [.int .i64 y25.f0, .int .i64 y25.f1, .slice A27 y25.f2.length c28] 24 :: Blk b37 [.int .i64 3, .int .i64 a1, .slice A85 ([y31] : List S24).length c86] 24 :: Blk b5 [.int .i64 a0.f0, .int .i64 a0.f1, .slice A1 a0.f2.length c2] 24 :: Blk b84 [.int .i64 4, .int .i64 0, .slice A89 l88.length c90] 24 :: Row k24 24 (.slice A27 y25.f2.length c28) y25.f2 :: Row k24 24 (.slice A85 ([y31] : List S24).length c86) ([y31] : List S24) :: Row k24 24 (.slice A89 l88.length c90) l88 :: L) W) ?_ ?_
   ·
    rintro a W ⟨l88, b84, A85, c86, A89, c90, h, hF, hO⟩
    rw [hj92] at h
    refine TQ.use ?_ hF hO
    clear hF hO
    refine TQ.then_ ?_
    refine TC.seq ?_
    refine TC.seq ?_
    obtain ⟨j304, hj304, h⟩ := jn_no h
    refine TC.tail (fun a W => ∃ (x303 : Bool), j304 x303 = some r ∧ Fr 112 a [(1, .int .i64 a1), (2, .pointer (some ⟨b5, 0, none⟩)), (5, .bool y6), (7, .pointer (some ⟨b30, 0, none⟩)), (8, .pointer (some ⟨b37, 0, none⟩)), (9, .pointer (some ⟨b84, 0, none⟩)), (79, .bool x303)] ∧ Own G (Blk b30 [.int .i64 y25.f0, .int .i64 y25.f1, .slice A27 y25.f2.length c28] 24 :: Blk b37 [.int .i64 3, .int .i64 a1, .slice A85 ([y31] : List S24).length c86] 24 :: Blk b5 [.int .i64 a0.f0, .int .i64 a0.f1, .slice A1 a0.f2.length c2] 24 :: Blk b84 [.int .i64 4, .int .i64 0, .slice A89 l88.length c90] 24 :: Row k24 24 (.slice A27 y25.f2.length c28) y25.f2 :: Row k24 24 (.slice A85 ([y31] : List S24).length c86) ([y31] : List S24) :: Row k24 24 (.slice A89 l88.length c90) l88 :: L) W) ?_ ?_
    ·
     rintro a W ⟨x303, h, hF, hO⟩
     rw [hj304] at h
     refine TQ.use ?_ hF hO
     clear hF hO
     refine TQ.then_ ?_
     refine TC.cond_b rfl h (fun hc306 h => ?_) (fun hc306 h => ?_)
     ·
      refine TC.seq ?_
      refine TC.region ?_
      refine TL.cons (TO.val rfl rfl rfl (Val.assign rfl) ?_)
      refine TL.nil ?_
      refine TQ.then_ ?_
      refine TC.ret ?_
      refine TQ.thenR ?_
      obtain rfl := Option.some.inj h
      exact TQ.fin (.inl rfl) rfl Tryd.results6 (.tmp rfl .nil) rfl (FRel.mk (Ls := []) [] 7 (Gd.le.refl _) rfl rfl rfl ⟨rfl, rfl, rfl⟩)
     ·
      refine TC.skip ?_
      refine TQ.then_ ?_
      refine TC.seq ?_
      refine TC.region ?_
      refine TL.cons (TO.val rfl rfl rfl (Val.move rfl) ?_)
      refine TL.cons (TO.val rfl rfl rfl (Val.loadsB 2 (cs := [.int .i64 a0.f0, .int .i64 a0.f1, .slice A1 a0.f2.length c2]) agg24 fsz24 rfl rfl rfl rfl) ?_)
      obtain ⟨y307, hy308, h⟩ := bind_no h
      refine TL.cons (TL.callV (Lin := []) (args := [.agg #[.int .i64 a0.f0, .int .i64 a0.f1, .slice A1 a0.f2.length c2]]) rfl rfl rfl hbd17 rfl rfl (types_Size.calls (a0 := a0) hr3 hl4 hy308) rfl ?_)
      rintro _ _ _ _ ⟨rfl, rfl, rfl⟩
      refine TL.cons (TO.val rfl rfl rfl (Val.cmp rfl rfl run_mul) ?_)
      refine TL.cons (TO.val rfl rfl rfl (Val.cmp rfl rfl run_leq) ?_)
      refine TL.cons (TO.val rfl rfl rfl (Val.assign rfl) ?_)
      refine TL.nil ?_
      refine TQ.then_ ?_
      refine TC.seq ?_
      refine TC.sel (Ls := [Row k24 24 (.slice A85 ([y31] : List S24).length c86) ([y31] : List S24), Blk b30 [.int .i64 y25.f0, .int .i64 y25.f1, .slice A27 y25.f2.length c28] 24, Blk b37 [.int .i64 3, .int .i64 a1, .slice A85 ([y31] : List S24).length c86] 24, Blk b5 [.int .i64 a0.f0, .int .i64 a0.f1, .slice A1 a0.f2.length c2] 24, Blk b84 [.int .i64 4, .int .i64 0, .slice A89 l88.length c90] 24, Row k24 24 (.slice A27 y25.f2.length c28) y25.f2, Row k24 24 (.slice A89 l88.length c90) l88]) [5, 0, 1, 2, 3, 4, 6] 7 rfl rfl rfl ?_
      refine TC.share (fun G489 e490 hs491 hb492 => ?_)
      have rd493 : Rd G489 k24 A85 ([y31] : List S24) := Rd.row hs491
      have le494 : ([y31] : List S24).length ≤ c86 := Row.le hs491
      refine TC.sel (Ls := [Row k24 24 (.slice A89 l88.length c90) l88, Blk b30 [.int .i64 y25.f0, .int .i64 y25.f1, .slice A27 y25.f2.length c28] 24, Blk b37 [.int .i64 3, .int .i64 a1, .slice A85 ([y31] : List S24).length c86] 24, Blk b5 [.int .i64 a0.f0, .int .i64 a0.f1, .slice A1 a0.f2.length c2] 24, Blk b84 [.int .i64 4, .int .i64 0, .slice A89 l88.length c90] 24, Row k24 24 (.slice A27 y25.f2.length c28) y25.f2]) [5, 0, 1, 2, 3, 4] 6 rfl rfl rfl ?_
      refine TC.share (fun G495 e496 hs497 hb498 => ?_)
      have rd499 : Rd G495 k24 A89 l88 := Rd.row hs497
      have le500 : l88.length ≤ c90 := Row.le hs497
      refine TC.sel (Ls := [Row k24 24 (.slice A27 y25.f2.length c28) y25.f2, Blk b30 [.int .i64 y25.f0, .int .i64 y25.f1, .slice A27 y25.f2.length c28] 24, Blk b37 [.int .i64 3, .int .i64 a1, .slice A85 ([y31] : List S24).length c86] 24, Blk b5 [.int .i64 a0.f0, .int .i64 a0.f1, .slice A1 a0.f2.length c2] 24, Blk b84 [.int .i64 4, .int .i64 0, .slice A89 l88.length c90] 24]) [4, 0, 1, 2, 3] 5 rfl rfl rfl ?_
      refine TC.share (fun G501 e502 hs503 hb504 => ?_)
      have rd505 : Rd G501 k24 A27 y25.f2 := Rd.row hs503
      have le506 : y25.f2.length ≤ c28 := Row.le hs503
      refine TC.regionAny [] [0, 1, 2, 3, 4, 5, 6, 7, 8, 9, 10, 11, 12, 13, 14, 15, 16, 17, 18, 19, 20, 21, 22, 23, 24, 25, 26, 27] mixed (by kernel_rfl) ?_
      refine TA.take 0 rfl (by kernel_rfl) rfl (PQ.then_ PQ.body) rfl (Val.move rfl) (fun W hO => hO) ?_
      refine TA.take 1 rfl (by kernel_rfl) rfl (PQ.then_ PQ.body) rfl (Val.move rfl) (fun W hO => hO) ?_
      refine TK.split (p := y6 = true) h (fun hg507 h => ?_) (fun hg507 h => ?_)
      ·
       have hk508 : y6 = true := hg507
       refine TA.take 2 rfl (by kernel_rfl) rfl (PQ.then_ PQ.body) (Wt.yes rfl rfl rfl hk508) (Val.loadsB 2 (cs := [.int .i64 a0.f0, .int .i64 a0.f1, .slice A1 a0.f2.length c2]) agg24 fsz24 rfl rfl rfl rfl) (fun W hO => hO) ?_
       obtain ⟨y509, hy510, h⟩ := bind_no h
       refine TA.eff 3 rfl (by kernel_rfl) rfl (TL.callV (Lin := []) (args := [.agg #[.int .i64 a0.f0, .int .i64 a0.f1, .slice A1 a0.f2.length c2]]) (Wt.yes rfl rfl rfl hk508) rfl rfl hbd17 rfl rfl (types_Size.calls (a0 := a0) (hr3.up (Gd.le.trans (Gd.le.trans e490 e496) e502)) hl4 hy510) rfl ?_)
       rintro _ _ _ _ ⟨rfl, rfl, rfl⟩
       refine TA.next (fun W hO => hO) ?_
       refine TA.take 4 rfl (by kernel_rfl) rfl (PQ.then_ PQ.body) (Wt.yes rfl rfl rfl hk508) (Val.cmp rfl rfl run_geq) (fun W hO => hO) ?_
       refine TA.take 5 rfl (by kernel_rfl) rfl (PQ.then_ PQ.body) rfl (Val.pickY rfl hk508 rfl) (fun W hO => hO) ?_
       refine TA.take 6 rfl (by kernel_rfl) rfl (PQ.then_ PQ.body) rfl (Val.move rfl) (fun W hO => hO) ?_
       refine TK.split (p := 1 ≤ y509) h (fun hg511 h => ?_) (fun hg511 h => ?_)
       ·
        have hk512 : decide (1 ≤ y509) = true := decide_eq_true hg511
        refine TA.take 7 rfl (by kernel_rfl) rfl (PQ.then_ PQ.body) (Wt.yes rfl rfl rfl hk512) (Val.loadsB 1 (cs := [.int .i64 3, .int .i64 a1, .slice A85 ([y31] : List S24).length c86]) agg24 fsz24 rfl rfl rfl rfl) (fun W hO => hO) ?_
        obtain ⟨y513, hy514, h⟩ := bind_no h
        refine TA.eff 8 rfl (by kernel_rfl) rfl (TL.callV (Lin := []) (args := [.agg #[.int .i64 3, .int .i64 a1, .slice A85 ([y31] : List S24).length c86]]) (Wt.yes rfl rfl rfl hk512) rfl rfl hbd15 rfl rfl (types_Right.calls (a0 := (⟨3, a1, ([y31] : List S24)⟩ : S24)) (rd493.up (Gd.le.trans e496 e502)) le494 hy514) rfl ?_)
        rintro _ _ _ _ ⟨rfl, rfl, rfl⟩
        refine TA.next (fun W hO => hO) ?_
        refine TA.take 9 rfl (by kernel_rfl) rfl (PQ.then_ PQ.body) (Wt.yes rfl rfl rfl hk512) (Val.not_ rfl) (fun W hO => hO) ?_
        refine TA.take 10 rfl (by kernel_rfl) rfl (PQ.then_ PQ.body) (Wt.yes rfl rfl rfl hk512) (Val.move rfl) (fun W hO => hO) ?_
        refine TK.split (p := (!y513) = true) h (fun hg515 h => ?_) (fun hg515 h => ?_)
        ·
         have hk516 : (!y513) = true := hg515
         refine TA.not 11 rfl (by kernel_rfl) rfl (PQ.then_ PQ.body) (Wt.no rfl rfl rfl hk516) (fun W hO => hO) ?_
         refine TA.take 12 rfl (by kernel_rfl) rfl (PQ.then_ PQ.body) (Wt.yes rfl rfl rfl hk512) (Val.pickY rfl hk516 rfl) (fun W hO => hO) ?_
         refine TA.take 13 rfl (by kernel_rfl) rfl (PQ.then_ PQ.body) rfl (Val.pickY rfl hk512 rfl) (fun W hO => hO) ?_
         refine TA.take 14 rfl (by kernel_rfl) rfl (PQ.then_ PQ.body) rfl (Val.move rfl) (fun W hO => hO) ?_
         refine TA.take 15 rfl (by kernel_rfl) rfl (PQ.then_ PQ.body) (Wt.yes rfl rfl rfl rfl) (Val.loadsB 3 (cs := [.int .i64 4, .int .i64 0, .slice A89 l88.length c90]) agg24 fsz24 rfl rfl rfl rfl) (fun W hO => hO) ?_
         refine TA.take 17 rfl (by kernel_rfl) rfl (PQ.then_ PQ.body) (Wt.yes rfl rfl rfl rfl) (Val.loadsB 0 (cs := [.int .i64 y25.f0, .int .i64 y25.f1, .slice A27 y25.f2.length c28]) agg24 fsz24 rfl rfl rfl rfl) (fun W hO => hO) ?_
         obtain ⟨y517, hy518, h⟩ := bind_no h
         refine TA.eff 16 rfl (by kernel_rfl) rfl (TL.callV (Lin := []) (args := [.agg #[.int .i64 4, .int .i64 0, .slice A89 l88.length c90]]) (Wt.yes rfl rfl rfl rfl) rfl rfl hbd15 rfl rfl (types_Right.calls (a0 := (⟨4, 0, l88⟩ : S24)) (rd499.up e502) le500 hy518) rfl ?_)
         rintro _ _ _ _ ⟨rfl, rfl, rfl⟩
         refine TA.next (fun W hO => hO) ?_
         obtain ⟨y519, hy520, h⟩ := bind_no h
         refine TA.eff 18 rfl (by kernel_rfl) rfl (TL.callV (Lin := []) (args := [.agg #[.int .i64 y25.f0, .int .i64 y25.f1, .slice A27 y25.f2.length c28]]) (Wt.yes rfl rfl rfl rfl) rfl rfl hbd15 rfl rfl (types_Right.calls (a0 := y25) rd505 le506 hy520) rfl ?_)
         rintro _ _ _ _ ⟨rfl, rfl, rfl⟩
         refine TA.next (fun W hO => hO) ?_
         refine TA.take 19 rfl (by kernel_rfl) rfl (PQ.then_ PQ.body) (Wt.yes rfl rfl rfl rfl) (Val.move rfl) (fun W hO => hO) ?_
         refine TK.split (p := y519 = true) h (fun hg521 h => ?_) (fun hg521 h => ?_)
         ·
          have hk522 : y519 = true := hg521
          refine TA.take 20 rfl (by kernel_rfl) rfl (PQ.then_ PQ.body) (Wt.yes rfl rfl rfl hk522) (Val.loadsB 2 (cs := [.int .i64 a0.f0, .int .i64 a0.f1, .slice A1 a0.f2.length c2]) agg24 fsz24 rfl rfl rfl rfl) (fun W hO => hO) ?_
          obtain ⟨y523, hy524, h⟩ := bind_no h
          refine TA.eff 21 rfl (by kernel_rfl) rfl (TL.callV (Lin := []) (args := [.agg #[.int .i64 a0.f0, .int .i64 a0.f1, .slice A1 a0.f2.length c2]]) (Wt.yes rfl rfl rfl hk522) rfl rfl hbd17 rfl rfl (types_Size.calls (a0 := a0) (hr3.up (Gd.le.trans (Gd.le.trans e490 e496) e502)) hl4 hy524) rfl ?_)
          rintro _ _ _ _ ⟨rfl, rfl, rfl⟩
          refine TA.next (fun W hO => hO) ?_
          refine TA.take 22 rfl (by kernel_rfl) rfl (PQ.then_ PQ.body) (Wt.yes rfl rfl rfl hk522) (Val.cmp rfl rfl run_mul) (fun W hO => hO) ?_
          refine TA.take 23 rfl (by kernel_rfl) rfl (PQ.then_ PQ.body) (Wt.yes rfl rfl rfl hk522) (Val.cmp rfl rfl run_leq) (fun W hO => hO) ?_
          refine TA.take 24 rfl (by kernel_rfl) rfl (PQ.then_ PQ.body) (Wt.yes rfl rfl rfl rfl) (Val.pickY rfl hk522 rfl) (fun W hO => hO) ?_
          refine TA.take 25 rfl (by kernel_rfl) rfl (PQ.then_ PQ.body) (Wt.yes rfl rfl rfl rfl) (Val.eqB Tryd.underlying4 rfl rfl) (fun W hO => hO) ?_
          refine TA.take 26 rfl (by kernel_rfl) rfl (PQ.then_ PQ.body) rfl (Val.pickY rfl rfl rfl) (fun W hO => hO) ?_
          refine TA.take 27 rfl (by kernel_rfl) rfl (PQ.then_ PQ.body) rfl (Val.assign rfl) (fun W hO => hO) ?_
          refine TA.done (by kernel_rfl) ?_
          refine TQ.then_ ?_
          refine TC.ret ?_
          refine TQ.back hb504 ?_
          refine TQ.back hb498 ?_
          refine TQ.back hb492 ?_
          obtain rfl := Option.some.inj h
          exact TQ.fin (.inl rfl) rfl Tryd.results6 (.tmp rfl .nil) rfl (FRel.mk (Ls := []) [] 7 (Gd.le.refl _) rfl rfl rfl ⟨rfl, rfl, rfl⟩)
         ·
          have hk525 : y519 = false := (by simpa using hg521)
          refine TA.not 20 rfl (by kernel_rfl) rfl (PQ.then_ PQ.body) (Wt.no rfl rfl rfl hk525) (fun W hO => hO) ?_
          refine TA.not 21 rfl (by kernel_rfl) rfl (PQ.then_ PQ.body) (Wt.no rfl rfl rfl hk525) (fun W hO => hO) ?_
          refine TA.not 22 rfl (by kernel_rfl) rfl (PQ.then_ PQ.body) (Wt.no rfl rfl rfl hk525) (fun W hO => hO) ?_
          refine TA.not 23 rfl (by kernel_rfl) rfl (PQ.then_ PQ.body) (Wt.no rfl rfl rfl hk525) (fun W hO => hO) ?_
          refine TA.take 24 rfl (by kernel_rfl) rfl (PQ.then_ PQ.body) (Wt.yes rfl rfl rfl rfl) (Val.pickN rfl hk525 rfl) (fun W hO => hO) ?_
          refine TA.take 25 rfl (by kernel_rfl) rfl (PQ.then_ PQ.body) (Wt.yes rfl rfl rfl rfl) (Val.eqB Tryd.underlying4 rfl rfl) (fun W hO => hO) ?_
          refine TA.take 26 rfl (by kernel_rfl) rfl (PQ.then_ PQ.body) rfl (Val.pickY rfl rfl rfl) (fun W hO => hO) ?_
          refine TA.take 27 rfl (by kernel_rfl) rfl (PQ.then_ PQ.body) rfl (Val.assign rfl) (fun W hO => hO) ?_
          refine TA.done (by kernel_rfl) ?_
          refine TQ.then_ ?_
          refine TC.ret ?_
          refine TQ.back hb504 ?_
          refine TQ.back hb498 ?_
          refine TQ.back hb492 ?_
          obtain rfl := Option.some.inj h
          exact TQ.fin (.inl rfl) rfl Tryd.results6 (.tmp rfl .nil) rfl (FRel.mk (Ls := []) [] 7 (Gd.le.refl _) rfl rfl rfl ⟨rfl, rfl, rfl⟩)
        ·
         have hk526 : (!y513) = false := (by simpa using hg515)
         refine TA.take 11 rfl (by kernel_rfl) rfl (PQ.then_ PQ.body) (Wt.yes rfl rfl rfl hk526) (Val.move rfl) (fun W hO => hO) ?_
         refine TA.take 12 rfl (by kernel_rfl) rfl (PQ.then_ PQ.body) (Wt.yes rfl rfl rfl hk512) (Val.pickN rfl hk526 rfl) (fun W hO => hO) ?_
         refine TA.take 13 rfl (by kernel_rfl) rfl (PQ.then_ PQ.body) rfl (Val.pickY rfl hk512 rfl) (fun W hO => hO) ?_
         refine TA.take 14 rfl (by kernel_rfl) rfl (PQ.then_ PQ.body) rfl (Val.move rfl) (fun W hO => hO) ?_
         refine TK.split (p := (IntKind.i64.wrap (a1 * y307)) ≤ 1048576) h (fun hg527 h => ?_) (fun hg527 h => ?_)
         ·
          have hk528 : decide ((IntKind.i64.wrap (a1 * y307)) ≤ 1048576) = true := decide_eq_true hg527
          refine TA.take 15 rfl (by kernel_rfl) rfl (PQ.then_ PQ.body) (Wt.yes rfl rfl rfl hk528) (Val.loadsB 3 (cs := [.int .i64 4, .int .i64 0, .slice A89 l88.length c90]) agg24 fsz24 rfl rfl rfl rfl) (fun W hO => hO) ?_
          refine TA.take 17 rfl (by kernel_rfl) rfl (PQ.then_ PQ.body) (Wt.yes rfl rfl rfl hk528) (Val.loadsB 0 (cs := [.int .i64 y25.f0, .int .i64 y25.f1, .slice A27 y25.f2.length c28]) agg24 fsz24 rfl rfl rfl rfl) (fun W hO => hO) ?_
          obtain ⟨y529, hy530, h⟩ := bind_no h
          refine TA.eff 16 rfl (by kernel_rfl) rfl (TL.callV (Lin := []) (args := [.agg #[.int .i64 4, .int .i64 0, .slice A89 l88.length c90]]) (Wt.yes rfl rfl rfl hk528) rfl rfl hbd15 rfl rfl (types_Right.calls (a0 := (⟨4, 0, l88⟩ : S24)) (rd499.up e502) le500 hy530) rfl ?_)
          rintro _ _ _ _ ⟨rfl, rfl, rfl⟩
          refine TA.next (fun W hO => hO) ?_
          obtain ⟨y531, hy532, h⟩ := bind_no h
          refine TA.eff 18 rfl (by kernel_rfl) rfl (TL.callV (Lin := []) (args := [.agg #[.int .i64 y25.f0, .int .i64 y25.f1, .slice A27 y25.f2.length c28]]) (Wt.yes rfl rfl rfl hk528) rfl rfl hbd15 rfl rfl (types_Right.calls (a0 := y25) rd505 le506 hy532) rfl ?_)
          rintro _ _ _ _ ⟨rfl, rfl, rfl⟩
          refine TA.next (fun W hO => hO) ?_
          refine TA.take 19 rfl (by kernel_rfl) rfl (PQ.then_ PQ.body) (Wt.yes rfl rfl rfl hk528) (Val.move rfl) (fun W hO => hO) ?_
          refine TK.split (p := y531 = true) h (fun hg533 h => ?_) (fun hg533 h => ?_)
          ·
           have hk534 : y531 = true := hg533
           refine TA.take 20 rfl (by kernel_rfl) rfl (PQ.then_ PQ.body) (Wt.yes rfl rfl rfl hk534) (Val.loadsB 2 (cs := [.int .i64 a0.f0, .int .i64 a0.f1, .slice A1 a0.f2.length c2]) agg24 fsz24 rfl rfl rfl rfl) (fun W hO => hO) ?_
           obtain ⟨y535, hy536, h⟩ := bind_no h
           refine TA.eff 21 rfl (by kernel_rfl) rfl (TL.callV (Lin := []) (args := [.agg #[.int .i64 a0.f0, .int .i64 a0.f1, .slice A1 a0.f2.length c2]]) (Wt.yes rfl rfl rfl hk534) rfl rfl hbd17 rfl rfl (types_Size.calls (a0 := a0) (hr3.up (Gd.le.trans (Gd.le.trans e490 e496) e502)) hl4 hy536) rfl ?_)
           rintro _ _ _ _ ⟨rfl, rfl, rfl⟩
           refine TA.next (fun W hO => hO) ?_
           refine TA.take 22 rfl (by kernel_rfl) rfl (PQ.then_ PQ.body) (Wt.yes rfl rfl rfl hk534) (Val.cmp rfl rfl run_mul) (fun W hO => hO) ?_
           refine TA.take 23 rfl (by kernel_rfl) rfl (PQ.then_ PQ.body) (Wt.yes rfl rfl rfl hk534) (Val.cmp rfl rfl run_leq) (fun W hO => hO) ?_
           refine TA.take 24 rfl (by kernel_rfl) rfl (PQ.then_ PQ.body) (Wt.yes rfl rfl rfl hk528) (Val.pickY rfl hk534 rfl) (fun W hO => hO) ?_
           refine TA.take 25 rfl (by kernel_rfl) rfl (PQ.then_ PQ.body) (Wt.yes rfl rfl rfl hk528) (Val.eqB Tryd.underlying4 rfl rfl) (fun W hO => hO) ?_
           refine TA.take 26 rfl (by kernel_rfl) rfl (PQ.then_ PQ.body) rfl (Val.pickY rfl hk528 rfl) (fun W hO => hO) ?_
           refine TA.take 27 rfl (by kernel_rfl) rfl (PQ.then_ PQ.body) rfl (Val.assign rfl) (fun W hO => hO) ?_
           refine TA.done (by kernel_rfl) ?_
           refine TQ.then_ ?_
           refine TC.ret ?_
           refine TQ.back hb504 ?_
           refine TQ.back hb498 ?_
           refine TQ.back hb492 ?_
           obtain rfl := Option.some.inj h
           exact TQ.fin (.inl rfl) rfl Tryd.results6 (.tmp rfl .nil) rfl (FRel.mk (Ls := []) [] 7 (Gd.le.refl _) rfl rfl rfl ⟨rfl, rfl, rfl⟩)
          ·
           have hk537 : y531 = false := (by simpa using hg533)
           refine TA.not 20 rfl (by kernel_rfl) rfl (PQ.then_ PQ.body) (Wt.no rfl rfl rfl hk537) (fun W hO => hO) ?_
           refine TA.not 21 rfl (by kernel_rfl) rfl (PQ.then_ PQ.body) (Wt.no rfl rfl rfl hk537) (fun W hO => hO) ?_
           refine TA.not 22 rfl (by kernel_rfl) rfl (PQ.then_ PQ.body) (Wt.no rfl rfl rfl hk537) (fun W hO => hO) ?_
           refine TA.not 23 rfl (by kernel_rfl) rfl (PQ.then_ PQ.body) (Wt.no rfl rfl rfl hk537) (fun W hO => hO) ?_
           refine TA.take 24 rfl (by kernel_rfl) rfl (PQ.then_ PQ.body) (Wt.yes rfl rfl rfl hk528) (Val.pickN rfl hk537 rfl) (fun W hO => hO) ?_
           refine TA.take 25 rfl (by kernel_rfl) rfl (PQ.then_ PQ.body) (Wt.yes rfl rfl rfl hk528) (Val.eqB Tryd.underlying4 rfl rfl) (fun W hO => hO) ?_
           refine TA.take 26 rfl (by kernel_rfl) rfl (PQ.then_ PQ.body) rfl (Val.pickY rfl hk528 rfl) (fun W hO => hO) ?_
           refine TA.take 27 rfl (by kernel_rfl) rfl (PQ.then_ PQ.body) rfl (Val.assign rfl) (fun W hO => hO) ?_
           refine TA.done (by kernel_rfl) ?_
           refine TQ.then_ ?_
           refine TC.ret ?_
           refine TQ.back hb504 ?_
           refine TQ.back hb498 ?_
           refine TQ.back hb492 ?_
           obtain rfl := Option.some.inj h
           exact TQ.fin (.inl rfl) rfl Tryd.results6 (.tmp rfl .nil) rfl (FRel.mk (Ls := []) [] 7 (Gd.le.refl _) rfl rfl rfl ⟨rfl, rfl, rfl⟩)
         ·
          have hk538 : decide ((IntKind.i64.wrap (a1 * y307)) ≤ 1048576) = false := decide_eq_false hg527
          refine TA.not 15 rfl (by kernel_rfl) rfl (PQ.then_ PQ.body) (Wt.no rfl rfl rfl hk538) (fun W hO => hO) ?_
          refine TA.not 16 rfl (by kernel_rfl) rfl (PQ.then_ PQ.body) (Wt.no rfl rfl rfl hk538) (fun W hO => hO) ?_
          refine TA.not 17 rfl (by kernel_rfl) rfl (PQ.then_ PQ.body) (Wt.no rfl rfl rfl hk538) (fun W hO => hO) ?_
          refine TA.not 18 rfl (by kernel_rfl) rfl (PQ.then_ PQ.body) (Wt.no rfl rfl rfl hk538) (fun W hO => hO) ?_
          refine TA.not 19 rfl (by kernel_rfl) rfl (PQ.then_ PQ.body) (Wt.no rfl rfl rfl hk538) (fun W hO => hO) ?_
          refine TA.not 20 rfl (by kernel_rfl) rfl (PQ.then_ PQ.body) rfl (fun W hO => hO) ?_
          refine TA.not 21 rfl (by kernel_rfl) rfl (PQ.then_ PQ.body) rfl (fun W hO => hO) ?_
          refine TA.not 22 rfl (by kernel_rfl) rfl (PQ.then_ PQ.body) rfl (fun W hO => hO) ?_
          refine TA.not 23 rfl (by kernel_rfl) rfl (PQ.then_ PQ.body) rfl (fun W hO => hO) ?_
          refine TA.not 24 rfl (by kernel_rfl) rfl (PQ.then_ PQ.body) (Wt.no rfl rfl rfl hk538) (fun W hO => hO) ?_
          refine TA.not 25 rfl (by kernel_rfl) rfl (PQ.then_ PQ.body) (Wt.no rfl rfl rfl hk538) (fun W hO => hO) ?_
          refine TA.take 26 rfl (by kernel_rfl) rfl (PQ.then_ PQ.body) rfl (Val.pickN rfl hk538 rfl) (fun W hO => hO) ?_
          refine TA.take 27 rfl (by kernel_rfl) rfl (PQ.then_ PQ.body) rfl (Val.assign rfl) (fun W hO => hO) ?_
          refine TA.done (by kernel_rfl) ?_
          refine TQ.then_ ?_
          refine TC.ret ?_
          refine TQ.back hb504 ?_
          refine TQ.back hb498 ?_
          refine TQ.back hb492 ?_
          obtain rfl := Option.some.inj h
          exact TQ.fin (.inl rfl) rfl Tryd.results6 (.tmp rfl .nil) rfl (FRel.mk (Ls := []) [] 7 (Gd.le.refl _) rfl rfl rfl ⟨rfl, rfl, rfl⟩)
       ·
        have hk539 : decide (1 ≤ y509) = false := decide_eq_false hg511
        refine TA.not 7 rfl (by kernel_rfl) rfl (PQ.then_ PQ.body) (Wt.no rfl rfl rfl hk539) (fun W hO => hO) ?_
        refine TA.not 8 rfl (by kernel_rfl) rfl (PQ.then_ PQ.body) (Wt.no rfl rfl rfl hk539) (fun W hO => hO) ?_
        refine TA.not 9 rfl (by kernel_rfl) rfl (PQ.then_ PQ.body) (Wt.no rfl rfl rfl hk539) (fun W hO => hO) ?_
        refine TA.not 10 rfl (by kernel_rfl) rfl (PQ.then_ PQ.body) (Wt.no rfl rfl rfl hk539) (fun W hO => hO) ?_
        refine TA.not 11 rfl (by kernel_rfl) rfl (PQ.then_ PQ.body) rfl (fun W hO => hO) ?_
        refine TA.not 12 rfl (by kernel_rfl) rfl (PQ.then_ PQ.body) (Wt.no rfl rfl rfl hk539) (fun W hO => hO) ?_
        refine TA.take 13 rfl (by kernel_rfl) rfl (PQ.then_ PQ.body) rfl (Val.pickN rfl hk539 rfl) (fun W hO => hO) ?_
        refine TA.take 14 rfl (by kernel_rfl) rfl (PQ.then_ PQ.body) rfl (Val.move rfl) (fun W hO => hO) ?_
        refine TA.not 15 rfl (by kernel_rfl) rfl (PQ.then_ PQ.body) (Wt.no rfl rfl rfl rfl) (fun W hO => hO) ?_
        refine TA.not 16 rfl (by kernel_rfl) rfl (PQ.then_ PQ.body) (Wt.no rfl rfl rfl rfl) (fun W hO => hO) ?_
        refine TA.not 17 rfl (by kernel_rfl) rfl (PQ.then_ PQ.body) (Wt.no rfl rfl rfl rfl) (fun W hO => hO) ?_
        refine TA.not 18 rfl (by kernel_rfl) rfl (PQ.then_ PQ.body) (Wt.no rfl rfl rfl rfl) (fun W hO => hO) ?_
        refine TA.not 19 rfl (by kernel_rfl) rfl (PQ.then_ PQ.body) (Wt.no rfl rfl rfl rfl) (fun W hO => hO) ?_
        refine TA.not 20 rfl (by kernel_rfl) rfl (PQ.then_ PQ.body) rfl (fun W hO => hO) ?_
        refine TA.not 21 rfl (by kernel_rfl) rfl (PQ.then_ PQ.body) rfl (fun W hO => hO) ?_
        refine TA.not 22 rfl (by kernel_rfl) rfl (PQ.then_ PQ.body) rfl (fun W hO => hO) ?_
        refine TA.not 23 rfl (by kernel_rfl) rfl (PQ.then_ PQ.body) rfl (fun W hO => hO) ?_
        refine TA.not 24 rfl (by kernel_rfl) rfl (PQ.then_ PQ.body) (Wt.no rfl rfl rfl rfl) (fun W hO => hO) ?_
        refine TA.not 25 rfl (by kernel_rfl) rfl (PQ.then_ PQ.body) (Wt.no rfl rfl rfl rfl) (fun W hO => hO) ?_
        refine TA.take 26 rfl (by kernel_rfl) rfl (PQ.then_ PQ.body) rfl (Val.pickN rfl rfl rfl) (fun W hO => hO) ?_
        refine TA.take 27 rfl (by kernel_rfl) rfl (PQ.then_ PQ.body) rfl (Val.assign rfl) (fun W hO => hO) ?_
        refine TA.done (by kernel_rfl) ?_
        refine TQ.then_ ?_
        refine TC.ret ?_
        refine TQ.back hb504 ?_
        refine TQ.back hb498 ?_
        refine TQ.back hb492 ?_
        obtain rfl := Option.some.inj h
        exact TQ.fin (.inl rfl) rfl Tryd.results6 (.tmp rfl .nil) rfl (FRel.mk (Ls := []) [] 7 (Gd.le.refl _) rfl rfl rfl ⟨rfl, rfl, rfl⟩)
      ·
       have hk540 : y6 = false := (by simpa using hg507)
       refine TA.not 2 rfl (by kernel_rfl) rfl (PQ.then_ PQ.body) (Wt.no rfl rfl rfl hk540) (fun W hO => hO) ?_
       refine TA.not 3 rfl (by kernel_rfl) rfl (PQ.then_ PQ.body) (Wt.no rfl rfl rfl hk540) (fun W hO => hO) ?_
       refine TA.not 4 rfl (by kernel_rfl) rfl (PQ.then_ PQ.body) (Wt.no rfl rfl rfl hk540) (fun W hO => hO) ?_
       refine TA.take 5 rfl (by kernel_rfl) rfl (PQ.then_ PQ.body) rfl (Val.pickN rfl hk540 rfl) (fun W hO => hO) ?_
       refine TA.take 6 rfl (by kernel_rfl) rfl (PQ.then_ PQ.body) rfl (Val.move rfl) (fun W hO => hO) ?_
       refine TA.not 7 rfl (by kernel_rfl) rfl (PQ.then_ PQ.body) (Wt.no rfl rfl rfl rfl) (fun W hO => hO) ?_
       refine TA.not 8 rfl (by kernel_rfl) rfl (PQ.then_ PQ.body) (Wt.no rfl rfl rfl rfl) (fun W hO => hO) ?_
       refine TA.not 9 rfl (by kernel_rfl) rfl (PQ.then_ PQ.body) (Wt.no rfl rfl rfl rfl) (fun W hO => hO) ?_
       refine TA.not 10 rfl (by kernel_rfl) rfl (PQ.then_ PQ.body) (Wt.no rfl rfl rfl rfl) (fun W hO => hO) ?_
       refine TA.not 11 rfl (by kernel_rfl) rfl (PQ.then_ PQ.body) rfl (fun W hO => hO) ?_
       refine TA.not 12 rfl (by kernel_rfl) rfl (PQ.then_ PQ.body) (Wt.no rfl rfl rfl rfl) (fun W hO => hO) ?_
       refine TA.take 13 rfl (by kernel_rfl) rfl (PQ.then_ PQ.body) rfl (Val.pickN rfl rfl rfl) (fun W hO => hO) ?_
       refine TA.take 14 rfl (by kernel_rfl) rfl (PQ.then_ PQ.body) rfl (Val.move rfl) (fun W hO => hO) ?_
       refine TA.not 15 rfl (by kernel_rfl) rfl (PQ.then_ PQ.body) (Wt.no rfl rfl rfl rfl) (fun W hO => hO) ?_
       refine TA.not 16 rfl (by kernel_rfl) rfl (PQ.then_ PQ.body) (Wt.no rfl rfl rfl rfl) (fun W hO => hO) ?_
       refine TA.not 17 rfl (by kernel_rfl) rfl (PQ.then_ PQ.body) (Wt.no rfl rfl rfl rfl) (fun W hO => hO) ?_
       refine TA.not 18 rfl (by kernel_rfl) rfl (PQ.then_ PQ.body) (Wt.no rfl rfl rfl rfl) (fun W hO => hO) ?_
       refine TA.not 19 rfl (by kernel_rfl) rfl (PQ.then_ PQ.body) (Wt.no rfl rfl rfl rfl) (fun W hO => hO) ?_
       refine TA.not 20 rfl (by kernel_rfl) rfl (PQ.then_ PQ.body) rfl (fun W hO => hO) ?_
       refine TA.not 21 rfl (by kernel_rfl) rfl (PQ.then_ PQ.body) rfl (fun W hO => hO) ?_
       refine TA.not 22 rfl (by kernel_rfl) rfl (PQ.then_ PQ.body) rfl (fun W hO => hO) ?_
       refine TA.not 23 rfl (by kernel_rfl) rfl (PQ.then_ PQ.body) rfl (fun W hO => hO) ?_
       refine TA.not 24 rfl (by kernel_rfl) rfl (PQ.then_ PQ.body) (Wt.no rfl rfl rfl rfl) (fun W hO => hO) ?_
       refine TA.not 25 rfl (by kernel_rfl) rfl (PQ.then_ PQ.body) (Wt.no rfl rfl rfl rfl) (fun W hO => hO) ?_
       refine TA.take 26 rfl (by kernel_rfl) rfl (PQ.then_ PQ.body) rfl (Val.pickN rfl rfl rfl) (fun W hO => hO) ?_
       refine TA.take 27 rfl (by kernel_rfl) rfl (PQ.then_ PQ.body) rfl (Val.assign rfl) (fun W hO => hO) ?_
       refine TA.done (by kernel_rfl) ?_
       refine TQ.then_ ?_
       refine TC.ret ?_
       refine TQ.back hb504 ?_
       refine TQ.back hb498 ?_
       refine TQ.back hb492 ?_
       obtain rfl := Option.some.inj h
       exact TQ.fin (.inl rfl) rfl Tryd.results6 (.tmp rfl .nil) rfl (FRel.mk (Ls := []) [] 7 (Gd.le.refl _) rfl rfl rfl ⟨rfl, rfl, rfl⟩)
    ·
     refine TC.sel (Ls := [Row k24 24 (.slice A27 y25.f2.length c28) y25.f2, Blk b30 [.int .i64 y25.f0, .int .i64 y25.f1, .slice A27 y25.f2.length c28] 24, Blk b37 [.int .i64 3, .int .i64 a1, .slice A85 ([y31] : List S24).length c86] 24, Blk b5 [.int .i64 a0.f0, .int .i64 a0.f1, .slice A1 a0.f2.length c2] 24, Blk b84 [.int .i64 4, .int .i64 0, .slice A89 l88.length c90] 24, Row k24 24 (.slice A85 ([y31] : List S24).length c86) ([y31] : List S24), Row k24 24 (.slice A89 l88.length c90) l88]) [4, 0, 1, 2, 3, 5, 6] 7 rfl rfl rfl ?_
     refine TC.share (fun G658 e659 hs660 hb661 => ?_)
     have rd662 : Rd G658 k24 A27 y25.f2 := Rd.row hs660
     have le663 : y25.f2.length ≤ c28 := Row.le hs660
     refine TC.sel (Ls := [Row k24 24 (.slice A85 ([y31] : List S24).length c86) ([y31] : List S24), Blk b30 [.int .i64 y25.f0, .int .i64 y25.f1, .slice A27 y25.f2.length c28] 24, Blk b37 [.int .i64 3, .int .i64 a1, .slice A85 ([y31] : List S24).length c86] 24, Blk b5 [.int .i64 a0.f0, .int .i64 a0.f1, .slice A1 a0.f2.length c2] 24, Blk b84 [.int .i64 4, .int .i64 0, .slice A89 l88.length c90] 24, Row k24 24 (.slice A89 l88.length c90) l88]) [4, 0, 1, 2, 3, 5] 6 rfl rfl rfl ?_
     refine TC.share (fun G664 e665 hs666 hb667 => ?_)
     have rd668 : Rd G664 k24 A85 ([y31] : List S24) := Rd.row hs666
     have le669 : ([y31] : List S24).length ≤ c86 := Row.le hs666
     refine TC.sel (Ls := [Row k24 24 (.slice A89 l88.length c90) l88, Blk b30 [.int .i64 y25.f0, .int .i64 y25.f1, .slice A27 y25.f2.length c28] 24, Blk b37 [.int .i64 3, .int .i64 a1, .slice A85 ([y31] : List S24).length c86] 24, Blk b5 [.int .i64 a0.f0, .int .i64 a0.f1, .slice A1 a0.f2.length c2] 24, Blk b84 [.int .i64 4, .int .i64 0, .slice A89 l88.length c90] 24]) [4, 0, 1, 2, 3] 5 rfl rfl rfl ?_
     refine TC.share (fun G670 e671 hs672 hb673 => ?_)
     have rd674 : Rd G670 k24 A89 l88 := Rd.row hs672
     have le675 : l88.length ≤ c90 := Row.le hs672
     refine TC.regionAny [] [0, 2, 3, 4, 5, 6, 7, 8, 9, 10, 11, 12, 13, 14, 15, 16, 17, 18, 19, 20, 21, 22, 23, 24, 25, 26, 27, 28, 29, 30, 31, 32, 33, 34, 35, 36] mixed (by kernel_rfl) ?_
     refine TA.take 0 rfl (by kernel_rfl) rfl (PQ.then_ (PQ.then_ (PQ.then_ PQ.body))) rfl (Val.loadsB 0 (cs := [.int .i64 y25.f0, .int .i64 y25.f1, .slice A27 y25.f2.length c28]) agg24 fsz24 rfl rfl rfl rfl) (fun W hO => hO) ?_
     obtain ⟨y676, hy677, h⟩ := bind_no h
     refine TA.eff 1 rfl (by kernel_rfl) rfl (TL.callV (Lin := []) (args := [.agg #[.int .i64 y25.f0, .int .i64 y25.f1, .slice A27 y25.f2.length c28]]) rfl rfl rfl hbd15 rfl rfl (types_Right.calls (a0 := y25) (rd662.up (Gd.le.trans e665 e671)) le663 hy677) rfl ?_)
     rintro _ _ _ _ ⟨rfl, rfl, rfl⟩
     refine TA.next (fun W hO => hO) ?_
     refine TA.take 2 rfl (by kernel_rfl) rfl (PQ.then_ (PQ.then_ (PQ.then_ PQ.body))) rfl (Val.move rfl) (fun W hO => hO) ?_
     refine TK.split (p := y676 = true) h (fun hg678 h => ?_) (fun hg678 h => ?_)
     ·
      have hk679 : y676 = true := hg678
      refine TA.take 3 rfl (by kernel_rfl) rfl (PQ.then_ (PQ.then_ (PQ.then_ PQ.body))) (Wt.yes rfl rfl rfl hk679) (Val.loadsB 0 (cs := [.int .i64 y25.f0, .int .i64 y25.f1, .slice A27 y25.f2.length c28]) agg24 fsz24 rfl rfl rfl rfl) (fun W hO => hO) ?_
      obtain ⟨y680, hy681, h⟩ := bind_no h
      refine TA.eff 4 rfl (by kernel_rfl) rfl (TL.callV (Lin := []) (args := [.agg #[.int .i64 y25.f0, .int .i64 y25.f1, .slice A27 y25.f2.length c28]]) (Wt.yes rfl rfl rfl hk679) rfl rfl hbd20 rfl rfl (types_Scalar.calls (a0 := y25) (rd662.up (Gd.le.trans e665 e671)) le663 hy681) rfl ?_)
      rintro _ _ _ _ ⟨rfl, rfl, rfl⟩
      refine TA.next (fun W hO => hO) ?_
      refine TA.take 5 rfl (by kernel_rfl) rfl (PQ.then_ (PQ.then_ (PQ.then_ PQ.body))) (Wt.yes rfl rfl rfl hk679) (Val.not_ rfl) (fun W hO => hO) ?_
      refine TA.take 6 rfl (by kernel_rfl) rfl (PQ.then_ (PQ.then_ (PQ.then_ PQ.body))) (Wt.yes rfl rfl rfl hk679) (Val.move rfl) (fun W hO => hO) ?_
      refine TK.split (p := (!y680) = true) h (fun hg682 h => ?_) (fun hg682 h => ?_)
      ·
       have hk683 : (!y680) = true := hg682
       refine TA.not 7 rfl (by kernel_rfl) rfl (PQ.then_ (PQ.then_ (PQ.then_ PQ.body))) (Wt.no rfl rfl rfl hk683) (fun W hO => hO) ?_
       refine TA.not 8 rfl (by kernel_rfl) rfl (PQ.then_ (PQ.then_ (PQ.then_ PQ.body))) (Wt.no rfl rfl rfl hk683) (fun W hO => hO) ?_
       refine TA.not 9 rfl (by kernel_rfl) rfl (PQ.then_ (PQ.then_ (PQ.then_ PQ.body))) (Wt.no rfl rfl rfl hk683) (fun W hO => hO) ?_
       refine TA.take 10 rfl (by kernel_rfl) rfl (PQ.then_ (PQ.then_ (PQ.then_ PQ.body))) (Wt.yes rfl rfl rfl hk679) (Val.pickY rfl hk683 rfl) (fun W hO => hO) ?_
       refine TA.take 11 rfl (by kernel_rfl) rfl (PQ.then_ (PQ.then_ (PQ.then_ PQ.body))) rfl (Val.pickY rfl hk679 rfl) (fun W hO => hO) ?_
       refine TA.take 12 rfl (by kernel_rfl) rfl (PQ.then_ (PQ.then_ (PQ.then_ PQ.body))) rfl (Val.move rfl) (fun W hO => hO) ?_
       refine TA.not 13 rfl (by kernel_rfl) rfl (PQ.then_ (PQ.then_ (PQ.then_ PQ.body))) (Wt.no rfl rfl rfl rfl) (fun W hO => hO) ?_
       refine TA.not 14 rfl (by kernel_rfl) rfl (PQ.then_ (PQ.then_ (PQ.then_ PQ.body))) (Wt.no rfl rfl rfl rfl) (fun W hO => hO) ?_
       refine TA.not 15 rfl (by kernel_rfl) rfl (PQ.then_ (PQ.then_ (PQ.then_ PQ.body))) (Wt.no rfl rfl rfl rfl) (fun W hO => hO) ?_
       refine TA.not 16 rfl (by kernel_rfl) rfl (PQ.then_ (PQ.then_ (PQ.then_ PQ.body))) rfl (fun W hO => hO) ?_
       refine TA.not 17 rfl (by kernel_rfl) rfl (PQ.then_ (PQ.then_ (PQ.then_ PQ.body))) rfl (fun W hO => hO) ?_
       refine TA.not 18 rfl (by kernel_rfl) rfl (PQ.then_ (PQ.then_ (PQ.then_ PQ.body))) rfl (fun W hO => hO) ?_
       refine TA.not 19 rfl (by kernel_rfl) rfl (PQ.then_ (PQ.then_ (PQ.then_ PQ.body))) rfl (fun W hO => hO) ?_
       refine TA.not 20 rfl (by kernel_rfl) rfl (PQ.then_ (PQ.then_ (PQ.then_ PQ.body))) rfl (fun W hO => hO) ?_
       refine TA.not 21 rfl (by kernel_rfl) rfl (PQ.then_ (PQ.then_ (PQ.then_ PQ.body))) rfl (fun W hO => hO) ?_
       refine TA.not 22 rfl (by kernel_rfl) rfl (PQ.then_ (PQ.then_ (PQ.then_ PQ.body))) rfl (fun W hO => hO) ?_
       refine TA.not 23 rfl (by kernel_rfl) rfl (PQ.then_ (PQ.then_ (PQ.then_ PQ.body))) (Wt.no rfl rfl rfl rfl) (fun W hO => hO) ?_
       refine TA.take 24 rfl (by kernel_rfl) rfl (PQ.then_ (PQ.then_ (PQ.then_ PQ.body))) rfl (Val.pickY rfl rfl rfl) (fun W hO => hO) ?_
       refine TA.take 25 rfl (by kernel_rfl) rfl (PQ.then_ (PQ.then_ (PQ.then_ PQ.body))) rfl (Val.move rfl) (fun W hO => hO) ?_
       refine TA.not 26 rfl (by kernel_rfl) rfl (PQ.then_ (PQ.then_ (PQ.then_ PQ.body))) (Wt.no rfl rfl rfl rfl) (fun W hO => hO) ?_
       refine TA.not 27 rfl (by kernel_rfl) rfl (PQ.then_ (PQ.then_ (PQ.then_ PQ.body))) (Wt.no rfl rfl rfl rfl) (fun W hO => hO) ?_
       refine TA.not 28 rfl (by kernel_rfl) rfl (PQ.then_ (PQ.then_ (PQ.then_ PQ.body))) (Wt.no rfl rfl rfl rfl) (fun W hO => hO) ?_
       refine TA.not 29 rfl (by kernel_rfl) rfl (PQ.then_ (PQ.then_ (PQ.then_ PQ.body))) rfl (fun W hO => hO) ?_
       refine TA.not 30 rfl (by kernel_rfl) rfl (PQ.then_ (PQ.then_ (PQ.then_ PQ.body))) rfl (fun W hO => hO) ?_
       refine TA.not 31 rfl (by kernel_rfl) rfl (PQ.then_ (PQ.then_ (PQ.then_ PQ.body))) rfl (fun W hO => hO) ?_
       refine TA.not 32 rfl (by kernel_rfl) rfl (PQ.then_ (PQ.then_ (PQ.then_ PQ.body))) rfl (fun W hO => hO) ?_
       refine TA.not 33 rfl (by kernel_rfl) rfl (PQ.then_ (PQ.then_ (PQ.then_ PQ.body))) rfl (fun W hO => hO) ?_
       refine TA.not 34 rfl (by kernel_rfl) rfl (PQ.then_ (PQ.then_ (PQ.then_ PQ.body))) rfl (fun W hO => hO) ?_
       refine TA.not 35 rfl (by kernel_rfl) rfl (PQ.then_ (PQ.then_ (PQ.then_ PQ.body))) (Wt.no rfl rfl rfl rfl) (fun W hO => hO) ?_
       refine TA.take 36 rfl (by kernel_rfl) rfl (PQ.then_ (PQ.then_ (PQ.then_ PQ.body))) rfl (Val.pickY rfl rfl rfl) (fun W hO => hO) ?_
       refine TA.done (by kernel_rfl) ?_
       refine TQ.back hb673 ?_
       refine TQ.back hb667 ?_
       refine TQ.back hb661 ?_
       exact fun a W hF hO => ⟨true, h, hF.sub ⟨rfl, rfl, rfl, rfl, rfl, rfl, rfl, trivial⟩, hO.selT (Ls := [Blk b30 [.int .i64 y25.f0, .int .i64 y25.f1, .slice A27 y25.f2.length c28] 24, Blk b37 [.int .i64 3, .int .i64 a1, .slice A85 ([y31] : List S24).length c86] 24, Blk b5 [.int .i64 a0.f0, .int .i64 a0.f1, .slice A1 a0.f2.length c2] 24, Blk b84 [.int .i64 4, .int .i64 0, .slice A89 l88.length c90] 24, Row k24 24 (.slice A27 y25.f2.length c28) y25.f2, Row k24 24 (.slice A85 ([y31] : List S24).length c86) ([y31] : List S24), Row k24 24 (.slice A89 l88.length c90) l88]) [3, 4, 5, 6, 0, 1, 2] 7 rfl rfl rfl⟩
      ·
       have hk684 : (!y680) = false := (by simpa using hg682)
       refine TA.take 7 rfl (by kernel_rfl) rfl (PQ.then_ (PQ.then_ (PQ.then_ PQ.body))) (Wt.yes rfl rfl rfl hk684) (Val.loadsB 0 (cs := [.int .i64 y25.f0, .int .i64 y25.f1, .slice A27 y25.f2.length c28]) agg24 fsz24 rfl rfl rfl rfl) (fun W hO => hO) ?_
       obtain ⟨y685, hy686, h⟩ := bind_no h
       refine TA.eff 8 rfl (by kernel_rfl) rfl (TL.callV (Lin := []) (args := [.agg #[.int .i64 y25.f0, .int .i64 y25.f1, .slice A27 y25.f2.length c28]]) (Wt.yes rfl rfl rfl hk684) rfl rfl hbd17 rfl rfl (types_Size.calls (a0 := y25) (rd662.up (Gd.le.trans e665 e671)) le663 hy686) rfl ?_)
       rintro _ _ _ _ ⟨rfl, rfl, rfl⟩
       refine TA.next (fun W hO => hO) ?_
       refine TA.take 9 rfl (by kernel_rfl) rfl (PQ.then_ (PQ.then_ (PQ.then_ PQ.body))) (Wt.yes rfl rfl rfl hk684) (Val.cmp rfl rfl run_neq) (fun W hO => hO) ?_
       refine TA.take 10 rfl (by kernel_rfl) rfl (PQ.then_ (PQ.then_ (PQ.then_ PQ.body))) (Wt.yes rfl rfl rfl hk679) (Val.pickN rfl hk684 rfl) (fun W hO => hO) ?_
       refine TA.take 11 rfl (by kernel_rfl) rfl (PQ.then_ (PQ.then_ (PQ.then_ PQ.body))) rfl (Val.pickY rfl hk679 rfl) (fun W hO => hO) ?_
       refine TA.take 12 rfl (by kernel_rfl) rfl (PQ.then_ (PQ.then_ (PQ.then_ PQ.body))) rfl (Val.move rfl) (fun W hO => hO) ?_
       refine TK.split (p := (!decide (y685 = 1)) = true) h (fun hg687 h => ?_) (fun hg687 h => ?_)
       ·
        have hk688 : (!decide (y685 = 1)) = true := hg687
        refine TA.not 13 rfl (by kernel_rfl) rfl (PQ.then_ (PQ.then_ (PQ.then_ PQ.body))) (Wt.no rfl rfl rfl hk688) (fun W hO => hO) ?_
        refine TA.not 14 rfl (by kernel_rfl) rfl (PQ.then_ (PQ.then_ (PQ.then_ PQ.body))) (Wt.no rfl rfl rfl hk688) (fun W hO => hO) ?_
        refine TA.not 15 rfl (by kernel_rfl) rfl (PQ.then_ (PQ.then_ (PQ.then_ PQ.body))) (Wt.no rfl rfl rfl hk688) (fun W hO => hO) ?_
        refine TA.not 16 rfl (by kernel_rfl) rfl (PQ.then_ (PQ.then_ (PQ.then_ PQ.body))) rfl (fun W hO => hO) ?_
        refine TA.not 17 rfl (by kernel_rfl) rfl (PQ.then_ (PQ.then_ (PQ.then_ PQ.body))) rfl (fun W hO => hO) ?_
        refine TA.not 18 rfl (by kernel_rfl) rfl (PQ.then_ (PQ.then_ (PQ.then_ PQ.body))) rfl (fun W hO => hO) ?_
        refine TA.not 19 rfl (by kernel_rfl) rfl (PQ.then_ (PQ.then_ (PQ.then_ PQ.body))) rfl (fun W hO => hO) ?_
        refine TA.not 20 rfl (by kernel_rfl) rfl (PQ.then_ (PQ.then_ (PQ.then_ PQ.body))) rfl (fun W hO => hO) ?_
        refine TA.not 21 rfl (by kernel_rfl) rfl (PQ.then_ (PQ.then_ (PQ.then_ PQ.body))) rfl (fun W hO => hO) ?_
        refine TA.not 22 rfl (by kernel_rfl) rfl (PQ.then_ (PQ.then_ (PQ.then_ PQ.body))) rfl (fun W hO => hO) ?_
        refine TA.not 23 rfl (by kernel_rfl) rfl (PQ.then_ (PQ.then_ (PQ.then_ PQ.body))) (Wt.no rfl rfl rfl hk688) (fun W hO => hO) ?_
        refine TA.take 24 rfl (by kernel_rfl) rfl (PQ.then_ (PQ.then_ (PQ.then_ PQ.body))) rfl (Val.pickY rfl hk688 rfl) (fun W hO => hO) ?_
        refine TA.take 25 rfl (by kernel_rfl) rfl (PQ.then_ (PQ.then_ (PQ.then_ PQ.body))) rfl (Val.move rfl) (fun W hO => hO) ?_
        refine TA.not 26 rfl (by kernel_rfl) rfl (PQ.then_ (PQ.then_ (PQ.then_ PQ.body))) (Wt.no rfl rfl rfl rfl) (fun W hO => hO) ?_
        refine TA.not 27 rfl (by kernel_rfl) rfl (PQ.then_ (PQ.then_ (PQ.then_ PQ.body))) (Wt.no rfl rfl rfl rfl) (fun W hO => hO) ?_
        refine TA.not 28 rfl (by kernel_rfl) rfl (PQ.then_ (PQ.then_ (PQ.then_ PQ.body))) (Wt.no rfl rfl rfl rfl) (fun W hO => hO) ?_
        refine TA.not 29 rfl (by kernel_rfl) rfl (PQ.then_ (PQ.then_ (PQ.then_ PQ.body))) rfl (fun W hO => hO) ?_
        refine TA.not 30 rfl (by kernel_rfl) rfl (PQ.then_ (PQ.then_ (PQ.then_ PQ.body))) rfl (fun W hO => hO) ?_
        refine TA.not 31 rfl (by kernel_rfl) rfl (PQ.then_ (PQ.then_ (PQ.then_ PQ.body))) rfl (fun W hO => hO) ?_
        refine TA.not 32 rfl (by kernel_rfl) rfl (PQ.then_ (PQ.then_ (PQ.then_ PQ.body))) rfl (fun W hO => hO) ?_
        refine TA.not 33 rfl (by kernel_rfl) rfl (PQ.then_ (PQ.then_ (PQ.then_ PQ.body))) rfl (fun W hO => hO) ?_
        refine TA.not 34 rfl (by kernel_rfl) rfl (PQ.then_ (PQ.then_ (PQ.then_ PQ.body))) rfl (fun W hO => hO) ?_
        refine TA.not 35 rfl (by kernel_rfl) rfl (PQ.then_ (PQ.then_ (PQ.then_ PQ.body))) (Wt.no rfl rfl rfl rfl) (fun W hO => hO) ?_
        refine TA.take 36 rfl (by kernel_rfl) rfl (PQ.then_ (PQ.then_ (PQ.then_ PQ.body))) rfl (Val.pickY rfl rfl rfl) (fun W hO => hO) ?_
        refine TA.done (by kernel_rfl) ?_
        refine TQ.back hb673 ?_
        refine TQ.back hb667 ?_
        refine TQ.back hb661 ?_
        exact fun a W hF hO => ⟨true, h, hF.sub ⟨rfl, rfl, rfl, rfl, rfl, rfl, rfl, trivial⟩, hO.selT (Ls := [Blk b30 [.int .i64 y25.f0, .int .i64 y25.f1, .slice A27 y25.f2.length c28] 24, Blk b37 [.int .i64 3, .int .i64 a1, .slice A85 ([y31] : List S24).length c86] 24, Blk b5 [.int .i64 a0.f0, .int .i64 a0.f1, .slice A1 a0.f2.length c2] 24, Blk b84 [.int .i64 4, .int .i64 0, .slice A89 l88.length c90] 24, Row k24 24 (.slice A27 y25.f2.length c28) y25.f2, Row k24 24 (.slice A85 ([y31] : List S24).length c86) ([y31] : List S24), Row k24 24 (.slice A89 l88.length c90) l88]) [3, 4, 5, 6, 0, 1, 2] 7 rfl rfl rfl⟩
       ·
        have hk689 : (!decide (y685 = 1)) = false := (by simpa using hg687)
        refine TA.take 13 rfl (by kernel_rfl) rfl (PQ.then_ (PQ.then_ (PQ.then_ PQ.body))) (Wt.yes rfl rfl rfl hk689) (Val.loadsB 1 (cs := [.int .i64 3, .int .i64 a1, .slice A85 ([y31] : List S24).length c86]) agg24 fsz24 rfl rfl rfl rfl) (fun W hO => hO) ?_
        obtain ⟨y690, hy691, h⟩ := bind_no h
        refine TA.eff 14 rfl (by kernel_rfl) rfl (TL.callV (Lin := []) (args := [.agg #[.int .i64 3, .int .i64 a1, .slice A85 ([y31] : List S24).length c86]]) (Wt.yes rfl rfl rfl hk689) rfl rfl hbd15 rfl rfl (types_Right.calls (a0 := (⟨3, a1, ([y31] : List S24)⟩ : S24)) (rd668.up e671) le669 hy691) rfl ?_)
        rintro _ _ _ _ ⟨rfl, rfl, rfl⟩
        refine TA.next (fun W hO => hO) ?_
        refine TA.take 15 rfl (by kernel_rfl) rfl (PQ.then_ (PQ.then_ (PQ.then_ PQ.body))) (Wt.yes rfl rfl rfl hk689) (Val.move rfl) (fun W hO => hO) ?_
        refine TK.split (p := y690 = true) h (fun hg692 h => ?_) (fun hg692 h => ?_)
        ·
         have hk693 : y690 = true := hg692
         refine TA.take 16 rfl (by kernel_rfl) rfl (PQ.then_ (PQ.then_ (PQ.then_ PQ.body))) (Wt.yes rfl rfl rfl hk693) (Val.loadsB 1 (cs := [.int .i64 3, .int .i64 a1, .slice A85 ([y31] : List S24).length c86]) agg24 fsz24 rfl rfl rfl rfl) (fun W hO => hO) ?_
         refine TA.take 18 rfl (by kernel_rfl) rfl (PQ.then_ (PQ.then_ (PQ.then_ PQ.body))) (Wt.yes rfl rfl rfl hk693) (Val.move rfl) (fun W hO => hO) ?_
         refine TA.take 19 rfl (by kernel_rfl) rfl (PQ.then_ (PQ.then_ (PQ.then_ PQ.body))) (Wt.yes rfl rfl rfl hk693) (Val.loadsB 2 (cs := [.int .i64 a0.f0, .int .i64 a0.f1, .slice A1 a0.f2.length c2]) agg24 fsz24 rfl rfl rfl rfl) (fun W hO => hO) ?_
         obtain ⟨y694, hy695, h⟩ := bind_no h
         refine TA.eff 17 rfl (by kernel_rfl) rfl (TL.callV (Lin := []) (args := [.agg #[.int .i64 3, .int .i64 a1, .slice A85 ([y31] : List S24).length c86]]) (Wt.yes rfl rfl rfl hk693) rfl rfl hbd17 rfl rfl (types_Size.calls (a0 := (⟨3, a1, ([y31] : List S24)⟩ : S24)) (rd668.up e671) le669 hy695) rfl ?_)
         rintro _ _ _ _ ⟨rfl, rfl, rfl⟩
         refine TA.next (fun W hO => hO) ?_
         obtain ⟨y696, hy697, h⟩ := bind_no h
         refine TA.eff 20 rfl (by kernel_rfl) rfl (TL.callV (Lin := []) (args := [.agg #[.int .i64 a0.f0, .int .i64 a0.f1, .slice A1 a0.f2.length c2]]) (Wt.yes rfl rfl rfl hk693) rfl rfl hbd17 rfl rfl (types_Size.calls (a0 := a0) (hr3.up (Gd.le.trans (Gd.le.trans e659 e665) e671)) hl4 hy697) rfl ?_)
         rintro _ _ _ _ ⟨rfl, rfl, rfl⟩
         refine TA.next (fun W hO => hO) ?_
         refine TA.take 21 rfl (by kernel_rfl) rfl (PQ.then_ (PQ.then_ (PQ.then_ PQ.body))) (Wt.yes rfl rfl rfl hk693) (Val.cmp rfl rfl run_mul) (fun W hO => hO) ?_
         refine TA.take 22 rfl (by kernel_rfl) rfl (PQ.then_ (PQ.then_ (PQ.then_ PQ.body))) (Wt.yes rfl rfl rfl hk693) (Val.cmp rfl rfl run_neq) (fun W hO => hO) ?_
         refine TA.take 23 rfl (by kernel_rfl) rfl (PQ.then_ (PQ.then_ (PQ.then_ PQ.body))) (Wt.yes rfl rfl rfl hk689) (Val.pickY rfl hk693 rfl) (fun W hO => hO) ?_
         refine TA.take 24 rfl (by kernel_rfl) rfl (PQ.then_ (PQ.then_ (PQ.then_ PQ.body))) rfl (Val.pickN rfl hk689 rfl) (fun W hO => hO) ?_
         refine TA.take 25 rfl (by kernel_rfl) rfl (PQ.then_ (PQ.then_ (PQ.then_ PQ.body))) rfl (Val.move rfl) (fun W hO => hO) ?_
         refine TK.split (p := (!decide (y694 = (IntKind.i64.wrap (a1 * y696)))) = true) h (fun hg698 h => ?_) (fun hg698 h => ?_)
         ·
          have hk699 : (!decide (y694 = (IntKind.i64.wrap (a1 * y696)))) = true := hg698
          refine TA.not 26 rfl (by kernel_rfl) rfl (PQ.then_ (PQ.then_ (PQ.then_ PQ.body))) (Wt.no rfl rfl rfl hk699) (fun W hO => hO) ?_
          refine TA.not 27 rfl (by kernel_rfl) rfl (PQ.then_ (PQ.then_ (PQ.then_ PQ.body))) (Wt.no rfl rfl rfl hk699) (fun W hO => hO) ?_
          refine TA.not 28 rfl (by kernel_rfl) rfl (PQ.then_ (PQ.then_ (PQ.then_ PQ.body))) (Wt.no rfl rfl rfl hk699) (fun W hO => hO) ?_
          refine TA.not 29 rfl (by kernel_rfl) rfl (PQ.then_ (PQ.then_ (PQ.then_ PQ.body))) rfl (fun W hO => hO) ?_
          refine TA.not 30 rfl (by kernel_rfl) rfl (PQ.then_ (PQ.then_ (PQ.then_ PQ.body))) rfl (fun W hO => hO) ?_
          refine TA.not 31 rfl (by kernel_rfl) rfl (PQ.then_ (PQ.then_ (PQ.then_ PQ.body))) rfl (fun W hO => hO) ?_
          refine TA.not 32 rfl (by kernel_rfl) rfl (PQ.then_ (PQ.then_ (PQ.then_ PQ.body))) rfl (fun W hO => hO) ?_
          refine TA.not 33 rfl (by kernel_rfl) rfl (PQ.then_ (PQ.then_ (PQ.then_ PQ.body))) rfl (fun W hO => hO) ?_
          refine TA.not 34 rfl (by kernel_rfl) rfl (PQ.then_ (PQ.then_ (PQ.then_ PQ.body))) rfl (fun W hO => hO) ?_
          refine TA.not 35 rfl (by kernel_rfl) rfl (PQ.then_ (PQ.then_ (PQ.then_ PQ.body))) (Wt.no rfl rfl rfl hk699) (fun W hO => hO) ?_
          refine TA.take 36 rfl (by kernel_rfl) rfl (PQ.then_ (PQ.then_ (PQ.then_ PQ.body))) rfl (Val.pickY rfl hk699 rfl) (fun W hO => hO) ?_
          refine TA.done (by kernel_rfl) ?_
          refine TQ.back hb673 ?_
          refine TQ.back hb667 ?_
          refine TQ.back hb661 ?_
          exact fun a W hF hO => ⟨true, h, hF.sub ⟨rfl, rfl, rfl, rfl, rfl, rfl, rfl, trivial⟩, hO.selT (Ls := [Blk b30 [.int .i64 y25.f0, .int .i64 y25.f1, .slice A27 y25.f2.length c28] 24, Blk b37 [.int .i64 3, .int .i64 a1, .slice A85 ([y31] : List S24).length c86] 24, Blk b5 [.int .i64 a0.f0, .int .i64 a0.f1, .slice A1 a0.f2.length c2] 24, Blk b84 [.int .i64 4, .int .i64 0, .slice A89 l88.length c90] 24, Row k24 24 (.slice A27 y25.f2.length c28) y25.f2, Row k24 24 (.slice A85 ([y31] : List S24).length c86) ([y31] : List S24), Row k24 24 (.slice A89 l88.length c90) l88]) [3, 4, 5, 6, 0, 1, 2] 7 rfl rfl rfl⟩
         ·
          have hk700 : (!decide (y694 = (IntKind.i64.wrap (a1 * y696)))) = false := (by simpa using hg698)
          refine TA.take 26 rfl (by kernel_rfl) rfl (PQ.then_ (PQ.then_ (PQ.then_ PQ.body))) (Wt.yes rfl rfl rfl hk700) (Val.loadsB 3 (cs := [.int .i64 4, .int .i64 0, .slice A89 l88.length c90]) agg24 fsz24 rfl rfl rfl rfl) (fun W hO => hO) ?_
          obtain ⟨y701, hy702, h⟩ := bind_no h
          refine TA.eff 27 rfl (by kernel_rfl) rfl (TL.callV (Lin := []) (args := [.agg #[.int .i64 4, .int .i64 0, .slice A89 l88.length c90]]) (Wt.yes rfl rfl rfl hk700) rfl rfl hbd15 rfl rfl (types_Right.calls (a0 := (⟨4, 0, l88⟩ : S24)) rd674 le675 hy702) rfl ?_)
          rintro _ _ _ _ ⟨rfl, rfl, rfl⟩
          refine TA.next (fun W hO => hO) ?_
          refine TA.take 28 rfl (by kernel_rfl) rfl (PQ.then_ (PQ.then_ (PQ.then_ PQ.body))) (Wt.yes rfl rfl rfl hk700) (Val.move rfl) (fun W hO => hO) ?_
          refine TK.split (p := y701 = true) h (fun hg703 h => ?_) (fun hg703 h => ?_)
          ·
           have hk704 : y701 = true := hg703
           refine TA.take 29 rfl (by kernel_rfl) rfl (PQ.then_ (PQ.then_ (PQ.then_ PQ.body))) (Wt.yes rfl rfl rfl hk704) (Val.loadsB 3 (cs := [.int .i64 4, .int .i64 0, .slice A89 l88.length c90]) agg24 fsz24 rfl rfl rfl rfl) (fun W hO => hO) ?_
           refine TA.take 31 rfl (by kernel_rfl) rfl (PQ.then_ (PQ.then_ (PQ.then_ PQ.body))) (Wt.yes rfl rfl rfl hk704) (Val.loadsB 2 (cs := [.int .i64 a0.f0, .int .i64 a0.f1, .slice A1 a0.f2.length c2]) agg24 fsz24 rfl rfl rfl rfl) (fun W hO => hO) ?_
           obtain ⟨y705, hy706, h⟩ := bind_no h
           refine TA.eff 30 rfl (by kernel_rfl) rfl (TL.callV (Lin := []) (args := [.agg #[.int .i64 4, .int .i64 0, .slice A89 l88.length c90]]) (Wt.yes rfl rfl rfl hk704) rfl rfl hbd17 rfl rfl (types_Size.calls (a0 := (⟨4, 0, l88⟩ : S24)) rd674 le675 hy706) rfl ?_)
           rintro _ _ _ _ ⟨rfl, rfl, rfl⟩
           refine TA.next (fun W hO => hO) ?_
           obtain ⟨y707, hy708, h⟩ := bind_no h
           refine TA.eff 32 rfl (by kernel_rfl) rfl (TL.callV (Lin := []) (args := [.agg #[.int .i64 a0.f0, .int .i64 a0.f1, .slice A1 a0.f2.length c2]]) (Wt.yes rfl rfl rfl hk704) rfl rfl hbd17 rfl rfl (types_Size.calls (a0 := a0) (hr3.up (Gd.le.trans (Gd.le.trans e659 e665) e671)) hl4 hy708) rfl ?_)
           rintro _ _ _ _ ⟨rfl, rfl, rfl⟩
           refine TA.next (fun W hO => hO) ?_
           refine TA.take 33 rfl (by kernel_rfl) rfl (PQ.then_ (PQ.then_ (PQ.then_ PQ.body))) (Wt.yes rfl rfl rfl hk704) (Val.cmp rfl rfl run_mul) (fun W hO => hO) ?_
           refine TA.take 34 rfl (by kernel_rfl) rfl (PQ.then_ (PQ.then_ (PQ.then_ PQ.body))) (Wt.yes rfl rfl rfl hk704) (Val.cmp rfl rfl run_neq) (fun W hO => hO) ?_
           refine TA.take 35 rfl (by kernel_rfl) rfl (PQ.then_ (PQ.then_ (PQ.then_ PQ.body))) (Wt.yes rfl rfl rfl hk700) (Val.pickY rfl hk704 rfl) (fun W hO => hO) ?_
           refine TA.take 36 rfl (by kernel_rfl) rfl (PQ.then_ (PQ.then_ (PQ.then_ PQ.body))) rfl (Val.pickN rfl hk700 rfl) (fun W hO => hO) ?_
           refine TA.done (by kernel_rfl) ?_
           refine TQ.back hb673 ?_
           refine TQ.back hb667 ?_
           refine TQ.back hb661 ?_
           exact fun a W hF hO => ⟨(!decide (y705 = (IntKind.i64.wrap (2 * y707)))), h, hF.sub ⟨rfl, rfl, rfl, rfl, rfl, rfl, rfl, trivial⟩, hO.selT (Ls := [Blk b30 [.int .i64 y25.f0, .int .i64 y25.f1, .slice A27 y25.f2.length c28] 24, Blk b37 [.int .i64 3, .int .i64 a1, .slice A85 ([y31] : List S24).length c86] 24, Blk b5 [.int .i64 a0.f0, .int .i64 a0.f1, .slice A1 a0.f2.length c2] 24, Blk b84 [.int .i64 4, .int .i64 0, .slice A89 l88.length c90] 24, Row k24 24 (.slice A27 y25.f2.length c28) y25.f2, Row k24 24 (.slice A85 ([y31] : List S24).length c86) ([y31] : List S24), Row k24 24 (.slice A89 l88.length c90) l88]) [3, 4, 5, 6, 0, 1, 2] 7 rfl rfl rfl⟩
          ·
           have hk709 : y701 = false := (by simpa using hg703)
           refine TA.not 29 rfl (by kernel_rfl) rfl (PQ.then_ (PQ.then_ (PQ.then_ PQ.body))) (Wt.no rfl rfl rfl hk709) (fun W hO => hO) ?_
           refine TA.not 30 rfl (by kernel_rfl) rfl (PQ.then_ (PQ.then_ (PQ.then_ PQ.body))) (Wt.no rfl rfl rfl hk709) (fun W hO => hO) ?_
           refine TA.not 31 rfl (by kernel_rfl) rfl (PQ.then_ (PQ.then_ (PQ.then_ PQ.body))) (Wt.no rfl rfl rfl hk709) (fun W hO => hO) ?_
           refine TA.not 32 rfl (by kernel_rfl) rfl (PQ.then_ (PQ.then_ (PQ.then_ PQ.body))) (Wt.no rfl rfl rfl hk709) (fun W hO => hO) ?_
           refine TA.not 33 rfl (by kernel_rfl) rfl (PQ.then_ (PQ.then_ (PQ.then_ PQ.body))) (Wt.no rfl rfl rfl hk709) (fun W hO => hO) ?_
           refine TA.not 34 rfl (by kernel_rfl) rfl (PQ.then_ (PQ.then_ (PQ.then_ PQ.body))) (Wt.no rfl rfl rfl hk709) (fun W hO => hO) ?_
           refine TA.take 35 rfl (by kernel_rfl) rfl (PQ.then_ (PQ.then_ (PQ.then_ PQ.body))) (Wt.yes rfl rfl rfl hk700) (Val.pickN rfl hk709 rfl) (fun W hO => hO) ?_
           refine TA.take 36 rfl (by kernel_rfl) rfl (PQ.then_ (PQ.then_ (PQ.then_ PQ.body))) rfl (Val.pickN rfl hk700 rfl) (fun W hO => hO) ?_
           refine TA.done (by kernel_rfl) ?_
           refine TQ.back hb673 ?_
           refine TQ.back hb667 ?_
           refine TQ.back hb661 ?_
           exact fun a W hF hO => ⟨false, h, hF.sub ⟨rfl, rfl, rfl, rfl, rfl, rfl, rfl, trivial⟩, hO.selT (Ls := [Blk b30 [.int .i64 y25.f0, .int .i64 y25.f1, .slice A27 y25.f2.length c28] 24, Blk b37 [.int .i64 3, .int .i64 a1, .slice A85 ([y31] : List S24).length c86] 24, Blk b5 [.int .i64 a0.f0, .int .i64 a0.f1, .slice A1 a0.f2.length c2] 24, Blk b84 [.int .i64 4, .int .i64 0, .slice A89 l88.length c90] 24, Row k24 24 (.slice A27 y25.f2.length c28) y25.f2, Row k24 24 (.slice A85 ([y31] : List S24).length c86) ([y31] : List S24), Row k24 24 (.slice A89 l88.length c90) l88]) [3, 4, 5, 6, 0, 1, 2] 7 rfl rfl rfl⟩
        ·
         have hk710 : y690 = false := (by simpa using hg692)
         refine TA.not 16 rfl (by kernel_rfl) rfl (PQ.then_ (PQ.then_ (PQ.then_ PQ.body))) (Wt.no rfl rfl rfl hk710) (fun W hO => hO) ?_
         refine TA.not 17 rfl (by kernel_rfl) rfl (PQ.then_ (PQ.then_ (PQ.then_ PQ.body))) (Wt.no rfl rfl rfl hk710) (fun W hO => hO) ?_
         refine TA.not 18 rfl (by kernel_rfl) rfl (PQ.then_ (PQ.then_ (PQ.then_ PQ.body))) (Wt.no rfl rfl rfl hk710) (fun W hO => hO) ?_
         refine TA.not 19 rfl (by kernel_rfl) rfl (PQ.then_ (PQ.then_ (PQ.then_ PQ.body))) (Wt.no rfl rfl rfl hk710) (fun W hO => hO) ?_
         refine TA.not 20 rfl (by kernel_rfl) rfl (PQ.then_ (PQ.then_ (PQ.then_ PQ.body))) (Wt.no rfl rfl rfl hk710) (fun W hO => hO) ?_
         refine TA.not 21 rfl (by kernel_rfl) rfl (PQ.then_ (PQ.then_ (PQ.then_ PQ.body))) (Wt.no rfl rfl rfl hk710) (fun W hO => hO) ?_
         refine TA.not 22 rfl (by kernel_rfl) rfl (PQ.then_ (PQ.then_ (PQ.then_ PQ.body))) (Wt.no rfl rfl rfl hk710) (fun W hO => hO) ?_
         refine TA.take 23 rfl (by kernel_rfl) rfl (PQ.then_ (PQ.then_ (PQ.then_ PQ.body))) (Wt.yes rfl rfl rfl hk689) (Val.pickN rfl hk710 rfl) (fun W hO => hO) ?_
         refine TA.take 24 rfl (by kernel_rfl) rfl (PQ.then_ (PQ.then_ (PQ.then_ PQ.body))) rfl (Val.pickN rfl hk689 rfl) (fun W hO => hO) ?_
         refine TA.take 25 rfl (by kernel_rfl) rfl (PQ.then_ (PQ.then_ (PQ.then_ PQ.body))) rfl (Val.move rfl) (fun W hO => hO) ?_
         refine TA.take 26 rfl (by kernel_rfl) rfl (PQ.then_ (PQ.then_ (PQ.then_ PQ.body))) (Wt.yes rfl rfl rfl rfl) (Val.loadsB 3 (cs := [.int .i64 4, .int .i64 0, .slice A89 l88.length c90]) agg24 fsz24 rfl rfl rfl rfl) (fun W hO => hO) ?_
         obtain ⟨y711, hy712, h⟩ := bind_no h
         refine TA.eff 27 rfl (by kernel_rfl) rfl (TL.callV (Lin := []) (args := [.agg #[.int .i64 4, .int .i64 0, .slice A89 l88.length c90]]) (Wt.yes rfl rfl rfl rfl) rfl rfl hbd15 rfl rfl (types_Right.calls (a0 := (⟨4, 0, l88⟩ : S24)) rd674 le675 hy712) rfl ?_)
         rintro _ _ _ _ ⟨rfl, rfl, rfl⟩
         refine TA.next (fun W hO => hO) ?_
         refine TA.take 28 rfl (by kernel_rfl) rfl (PQ.then_ (PQ.then_ (PQ.then_ PQ.body))) (Wt.yes rfl rfl rfl rfl) (Val.move rfl) (fun W hO => hO) ?_
         refine TK.split (p := y711 = true) h (fun hg713 h => ?_) (fun hg713 h => ?_)
         ·
          have hk714 : y711 = true := hg713
          refine TA.take 29 rfl (by kernel_rfl) rfl (PQ.then_ (PQ.then_ (PQ.then_ PQ.body))) (Wt.yes rfl rfl rfl hk714) (Val.loadsB 3 (cs := [.int .i64 4, .int .i64 0, .slice A89 l88.length c90]) agg24 fsz24 rfl rfl rfl rfl) (fun W hO => hO) ?_
          refine TA.take 31 rfl (by kernel_rfl) rfl (PQ.then_ (PQ.then_ (PQ.then_ PQ.body))) (Wt.yes rfl rfl rfl hk714) (Val.loadsB 2 (cs := [.int .i64 a0.f0, .int .i64 a0.f1, .slice A1 a0.f2.length c2]) agg24 fsz24 rfl rfl rfl rfl) (fun W hO => hO) ?_
          obtain ⟨y715, hy716, h⟩ := bind_no h
          refine TA.eff 30 rfl (by kernel_rfl) rfl (TL.callV (Lin := []) (args := [.agg #[.int .i64 4, .int .i64 0, .slice A89 l88.length c90]]) (Wt.yes rfl rfl rfl hk714) rfl rfl hbd17 rfl rfl (types_Size.calls (a0 := (⟨4, 0, l88⟩ : S24)) rd674 le675 hy716) rfl ?_)
          rintro _ _ _ _ ⟨rfl, rfl, rfl⟩
          refine TA.next (fun W hO => hO) ?_
          obtain ⟨y717, hy718, h⟩ := bind_no h
          refine TA.eff 32 rfl (by kernel_rfl) rfl (TL.callV (Lin := []) (args := [.agg #[.int .i64 a0.f0, .int .i64 a0.f1, .slice A1 a0.f2.length c2]]) (Wt.yes rfl rfl rfl hk714) rfl rfl hbd17 rfl rfl (types_Size.calls (a0 := a0) (hr3.up (Gd.le.trans (Gd.le.trans e659 e665) e671)) hl4 hy718) rfl ?_)
          rintro _ _ _ _ ⟨rfl, rfl, rfl⟩
          refine TA.next (fun W hO => hO) ?_
          refine TA.take 33 rfl (by kernel_rfl) rfl (PQ.then_ (PQ.then_ (PQ.then_ PQ.body))) (Wt.yes rfl rfl rfl hk714) (Val.cmp rfl rfl run_mul) (fun W hO => hO) ?_
          refine TA.take 34 rfl (by kernel_rfl) rfl (PQ.then_ (PQ.then_ (PQ.then_ PQ.body))) (Wt.yes rfl rfl rfl hk714) (Val.cmp rfl rfl run_neq) (fun W hO => hO) ?_
          refine TA.take 35 rfl (by kernel_rfl) rfl (PQ.then_ (PQ.then_ (PQ.then_ PQ.body))) (Wt.yes rfl rfl rfl rfl) (Val.pickY rfl hk714 rfl) (fun W hO => hO) ?_
          refine TA.take 36 rfl (by kernel_rfl) rfl (PQ.then_ (PQ.then_ (PQ.then_ PQ.body))) rfl (Val.pickN rfl rfl rfl) (fun W hO => hO) ?_
          refine TA.done (by kernel_rfl) ?_
          refine TQ.back hb673 ?_
          refine TQ.back hb667 ?_
          refine TQ.back hb661 ?_
          exact fun a W hF hO => ⟨(!decide (y715 = (IntKind.i64.wrap (2 * y717)))), h, hF.sub ⟨rfl, rfl, rfl, rfl, rfl, rfl, rfl, trivial⟩, hO.selT (Ls := [Blk b30 [.int .i64 y25.f0, .int .i64 y25.f1, .slice A27 y25.f2.length c28] 24, Blk b37 [.int .i64 3, .int .i64 a1, .slice A85 ([y31] : List S24).length c86] 24, Blk b5 [.int .i64 a0.f0, .int .i64 a0.f1, .slice A1 a0.f2.length c2] 24, Blk b84 [.int .i64 4, .int .i64 0, .slice A89 l88.length c90] 24, Row k24 24 (.slice A27 y25.f2.length c28) y25.f2, Row k24 24 (.slice A85 ([y31] : List S24).length c86) ([y31] : List S24), Row k24 24 (.slice A89 l88.length c90) l88]) [3, 4, 5, 6, 0, 1, 2] 7 rfl rfl rfl⟩
         ·
          have hk719 : y711 = false := (by simpa using hg713)
          refine TA.not 29 rfl (by kernel_rfl) rfl (PQ.then_ (PQ.then_ (PQ.then_ PQ.body))) (Wt.no rfl rfl rfl hk719) (fun W hO => hO) ?_
          refine TA.not 30 rfl (by kernel_rfl) rfl (PQ.then_ (PQ.then_ (PQ.then_ PQ.body))) (Wt.no rfl rfl rfl hk719) (fun W hO => hO) ?_
          refine TA.not 31 rfl (by kernel_rfl) rfl (PQ.then_ (PQ.then_ (PQ.then_ PQ.body))) (Wt.no rfl rfl rfl hk719) (fun W hO => hO) ?_
          refine TA.not 32 rfl (by kernel_rfl) rfl (PQ.then_ (PQ.then_ (PQ.then_ PQ.body))) (Wt.no rfl rfl rfl hk719) (fun W hO => hO) ?_
          refine TA.not 33 rfl (by kernel_rfl) rfl (PQ.then_ (PQ.then_ (PQ.then_ PQ.body))) (Wt.no rfl rfl rfl hk719) (fun W hO => hO) ?_
          refine TA.not 34 rfl (by kernel_rfl) rfl (PQ.then_ (PQ.then_ (PQ.then_ PQ.body))) (Wt.no rfl rfl rfl hk719) (fun W hO => hO) ?_
          refine TA.take 35 rfl (by kernel_rfl) rfl (PQ.then_ (PQ.then_ (PQ.then_ PQ.body))) (Wt.yes rfl rfl rfl rfl) (Val.pickN rfl hk719 rfl) (fun W hO => hO) ?_
          refine TA.take 36 rfl (by kernel_rfl) rfl (PQ.then_ (PQ.then_ (PQ.then_ PQ.body))) rfl (Val.pickN rfl rfl rfl) (fun W hO => hO) ?_
          refine TA.done (by kernel_rfl) ?_
          refine TQ.back hb673 ?_
          refine TQ.back hb667 ?_
          refine TQ.back hb661 ?_
          exact fun a W hF hO => ⟨false, h, hF.sub ⟨rfl, rfl, rfl, rfl, rfl, rfl, rfl, trivial⟩, hO.selT (Ls := [Blk b30 [.int .i64 y25.f0, .int .i64 y25.f1, .slice A27 y25.f2.length c28] 24, Blk b37 [.int .i64 3, .int .i64 a1, .slice A85 ([y31] : List S24).length c86] 24, Blk b5 [.int .i64 a0.f0, .int .i64 a0.f1, .slice A1 a0.f2.length c2] 24, Blk b84 [.int .i64 4, .int .i64 0, .slice A89 l88.length c90] 24, Row k24 24 (.slice A27 y25.f2.length c28) y25.f2, Row k24 24 (.slice A85 ([y31] : List S24).length c86) ([y31] : List S24), Row k24 24 (.slice A89 l88.length c90) l88]) [3, 4, 5, 6, 0, 1, 2] 7 rfl rfl rfl⟩
     ·
      have hk720 : y676 = false := (by simpa using hg678)
      refine TA.not 3 rfl (by kernel_rfl) rfl (PQ.then_ (PQ.then_ (PQ.then_ PQ.body))) (Wt.no rfl rfl rfl hk720) (fun W hO => hO) ?_
      refine TA.not 4 rfl (by kernel_rfl) rfl (PQ.then_ (PQ.then_ (PQ.then_ PQ.body))) (Wt.no rfl rfl rfl hk720) (fun W hO => hO) ?_
      refine TA.not 5 rfl (by kernel_rfl) rfl (PQ.then_ (PQ.then_ (PQ.then_ PQ.body))) (Wt.no rfl rfl rfl hk720) (fun W hO => hO) ?_
      refine TA.not 6 rfl (by kernel_rfl) rfl (PQ.then_ (PQ.then_ (PQ.then_ PQ.body))) (Wt.no rfl rfl rfl hk720) (fun W hO => hO) ?_
      refine TA.not 7 rfl (by kernel_rfl) rfl (PQ.then_ (PQ.then_ (PQ.then_ PQ.body))) rfl (fun W hO => hO) ?_
      refine TA.not 8 rfl (by kernel_rfl) rfl (PQ.then_ (PQ.then_ (PQ.then_ PQ.body))) rfl (fun W hO => hO) ?_
      refine TA.not 9 rfl (by kernel_rfl) rfl (PQ.then_ (PQ.then_ (PQ.then_ PQ.body))) rfl (fun W hO => hO) ?_
      refine TA.not 10 rfl (by kernel_rfl) rfl (PQ.then_ (PQ.then_ (PQ.then_ PQ.body))) (Wt.no rfl rfl rfl hk720) (fun W hO => hO) ?_
      refine TA.take 11 rfl (by kernel_rfl) rfl (PQ.then_ (PQ.then_ (PQ.then_ PQ.body))) rfl (Val.pickN rfl hk720 rfl) (fun W hO => hO) ?_
      refine TA.take 12 rfl (by kernel_rfl) rfl (PQ.then_ (PQ.then_ (PQ.then_ PQ.body))) rfl (Val.move rfl) (fun W hO => hO) ?_
      refine TA.take 13 rfl (by kernel_rfl) rfl (PQ.then_ (PQ.then_ (PQ.then_ PQ.body))) (Wt.yes rfl rfl rfl rfl) (Val.loadsB 1 (cs := [.int .i64 3, .int .i64 a1, .slice A85 ([y31] : List S24).length c86]) agg24 fsz24 rfl rfl rfl rfl) (fun W hO => hO) ?_
      obtain ⟨y721, hy722, h⟩ := bind_no h
      refine TA.eff 14 rfl (by kernel_rfl) rfl (TL.callV (Lin := []) (args := [.agg #[.int .i64 3, .int .i64 a1, .slice A85 ([y31] : List S24).length c86]]) (Wt.yes rfl rfl rfl rfl) rfl rfl hbd15 rfl rfl (types_Right.calls (a0 := (⟨3, a1, ([y31] : List S24)⟩ : S24)) (rd668.up e671) le669 hy722) rfl ?_)
      rintro _ _ _ _ ⟨rfl, rfl, rfl⟩
      refine TA.next (fun W hO => hO) ?_
      refine TA.take 15 rfl (by kernel_rfl) rfl (PQ.then_ (PQ.then_ (PQ.then_ PQ.body))) (Wt.yes rfl rfl rfl rfl) (Val.move rfl) (fun W hO => hO) ?_
      refine TK.split (p := y721 = true) h (fun hg723 h => ?_) (fun hg723 h => ?_)
      ·
       have hk724 : y721 = true := hg723
       refine TA.take 16 rfl (by kernel_rfl) rfl (PQ.then_ (PQ.then_ (PQ.then_ PQ.body))) (Wt.yes rfl rfl rfl hk724) (Val.loadsB 1 (cs := [.int .i64 3, .int .i64 a1, .slice A85 ([y31] : List S24).length c86]) agg24 fsz24 rfl rfl rfl rfl) (fun W hO => hO) ?_
       refine TA.take 18 rfl (by kernel_rfl) rfl (PQ.then_ (PQ.then_ (PQ.then_ PQ.body))) (Wt.yes rfl rfl rfl hk724) (Val.move rfl) (fun W hO => hO) ?_
       refine TA.take 19 rfl (by kernel_rfl) rfl (PQ.then_ (PQ.then_ (PQ.then_ PQ.body))) (Wt.yes rfl rfl rfl hk724) (Val.loadsB 2 (cs := [.int .i64 a0.f0, .int .i64 a0.f1, .slice A1 a0.f2.length c2]) agg24 fsz24 rfl rfl rfl rfl) (fun W hO => hO) ?_
       obtain ⟨y725, hy726, h⟩ := bind_no h
       refine TA.eff 17 rfl (by kernel_rfl) rfl (TL.callV (Lin := []) (args := [.agg #[.int .i64 3, .int .i64 a1, .slice A85 ([y31] : List S24).length c86]]) (Wt.yes rfl rfl rfl hk724) rfl rfl hbd17 rfl rfl (types_Size.calls (a0 := (⟨3, a1, ([y31] : List S24)⟩ : S24)) (rd668.up e671) le669 hy726) rfl ?_)
       rintro _ _ _ _ ⟨rfl, rfl, rfl⟩
       refine TA.next (fun W hO => hO) ?_
       obtain ⟨y727, hy728, h⟩ := bind_no h
       refine TA.eff 20 rfl (by kernel_rfl) rfl (TL.callV (Lin := []) (args := [.agg #[.int .i64 a0.f0, .int .i64 a0.f1, .slice A1 a0.f2.length c2]]) (Wt.yes rfl rfl rfl hk724) rfl rfl hbd17 rfl rfl (types_Size.calls (a0 := a0) (hr3.up (Gd.le.trans (Gd.le.trans e659 e665) e671)) hl4 hy728) rfl ?_)
       rintro _ _ _ _ ⟨rfl, rfl, rfl⟩
       refine TA.next (fun W hO => hO) ?_
       refine TA.take 21 rfl (by kernel_rfl) rfl (PQ.then_ (PQ.then_ (PQ.then_ PQ.body))) (Wt.yes rfl rfl rfl hk724) (Val.cmp rfl rfl run_mul) (fun W hO => hO) ?_
       refine TA.take 22 rfl (by kernel_rfl) rfl (PQ.then_ (PQ.then_ (PQ.then_ PQ.body))) (Wt.yes rfl rfl rfl hk724) (Val.cmp rfl rfl run_neq) (fun W hO => hO) ?_
       refine TA.take 23 rfl (by kernel_rfl) rfl (PQ.then_ (PQ.then_ (PQ.then_ PQ.body))) (Wt.yes rfl rfl rfl rfl) (Val.pickY rfl hk724 rfl) (fun W hO => hO) ?_
       refine TA.take 24 rfl (by kernel_rfl) rfl (PQ.then_ (PQ.then_ (PQ.then_ PQ.body))) rfl (Val.pickN rfl rfl rfl) (fun W hO => hO) ?_
       refine TA.take 25 rfl (by kernel_rfl) rfl (PQ.then_ (PQ.then_ (PQ.then_ PQ.body))) rfl (Val.move rfl) (fun W hO => hO) ?_
       refine TK.split (p := (!decide (y725 = (IntKind.i64.wrap (a1 * y727)))) = true) h (fun hg729 h => ?_) (fun hg729 h => ?_)
       ·
        have hk730 : (!decide (y725 = (IntKind.i64.wrap (a1 * y727)))) = true := hg729
        refine TA.not 26 rfl (by kernel_rfl) rfl (PQ.then_ (PQ.then_ (PQ.then_ PQ.body))) (Wt.no rfl rfl rfl hk730) (fun W hO => hO) ?_
        refine TA.not 27 rfl (by kernel_rfl) rfl (PQ.then_ (PQ.then_ (PQ.then_ PQ.body))) (Wt.no rfl rfl rfl hk730) (fun W hO => hO) ?_
        refine TA.not 28 rfl (by kernel_rfl) rfl (PQ.then_ (PQ.then_ (PQ.then_ PQ.body))) (Wt.no rfl rfl rfl hk730) (fun W hO => hO) ?_
        refine TA.not 29 rfl (by kernel_rfl) rfl (PQ.then_ (PQ.then_ (PQ.then_ PQ.body))) rfl (fun W hO => hO) ?_
        refine TA.not 30 rfl (by kernel_rfl) rfl (PQ.then_ (PQ.then_ (PQ.then_ PQ.body))) rfl (fun W hO => hO) ?_
        refine TA.not 31 rfl (by kernel_rfl) rfl (PQ.then_ (PQ.then_ (PQ.then_ PQ.body))) rfl (fun W hO => hO) ?_
        refine TA.not 32 rfl (by kernel_rfl) rfl (PQ.then_ (PQ.then_ (PQ.then_ PQ.body))) rfl (fun W hO => hO) ?_
        refine TA.not 33 rfl (by kernel_rfl) rfl (PQ.then_ (PQ.then_ (PQ.then_ PQ.body))) rfl (fun W hO => hO) ?_
        refine TA.not 34 rfl (by kernel_rfl) rfl (PQ.then_ (PQ.then_ (PQ.then_ PQ.body))) rfl (fun W hO => hO) ?_
        refine TA.not 35 rfl (by kernel_rfl) rfl (PQ.then_ (PQ.then_ (PQ.then_ PQ.body))) (Wt.no rfl rfl rfl hk730) (fun W hO => hO) ?_
        refine TA.take 36 rfl (by kernel_rfl) rfl (PQ.then_ (PQ.then_ (PQ.then_ PQ.body))) rfl (Val.pickY rfl hk730 rfl) (fun W hO => hO) ?_
        refine TA.done (by kernel_rfl) ?_
        refine TQ.back hb673 ?_
        refine TQ.back hb667 ?_
        refine TQ.back hb661 ?_
        exact fun a W hF hO => ⟨true, h, hF.sub ⟨rfl, rfl, rfl, rfl, rfl, rfl, rfl, trivial⟩, hO.selT (Ls := [Blk b30 [.int .i64 y25.f0, .int .i64 y25.f1, .slice A27 y25.f2.length c28] 24, Blk b37 [.int .i64 3, .int .i64 a1, .slice A85 ([y31] : List S24).length c86] 24, Blk b5 [.int .i64 a0.f0, .int .i64 a0.f1, .slice A1 a0.f2.length c2] 24, Blk b84 [.int .i64 4, .int .i64 0, .slice A89 l88.length c90] 24, Row k24 24 (.slice A27 y25.f2.length c28) y25.f2, Row k24 24 (.slice A85 ([y31] : List S24).length c86) ([y31] : List S24), Row k24 24 (.slice A89 l88.length c90) l88]) [3, 4, 5, 6, 0, 1, 2] 7 rfl rfl rfl⟩
       ·
        have hk731 : (!decide (y725 = (IntKind.i64.wrap (a1 * y727)))) = false := (by simpa using hg729)
        refine TA.take 26 rfl (by kernel_rfl) rfl (PQ.then_ (PQ.then_ (PQ.then_ PQ.body))) (Wt.yes rfl rfl rfl hk731) (Val.loadsB 3 (cs := [.int .i64 4, .int .i64 0, .slice A89 l88.length c90]) agg24 fsz24 rfl rfl rfl rfl) (fun W hO => hO) ?_
        obtain ⟨y732, hy733, h⟩ := bind_no h
        refine TA.eff 27 rfl (by kernel_rfl) rfl (TL.callV (Lin := []) (args := [.agg #[.int .i64 4, .int .i64 0, .slice A89 l88.length c90]]) (Wt.yes rfl rfl rfl hk731) rfl rfl hbd15 rfl rfl (types_Right.calls (a0 := (⟨4, 0, l88⟩ : S24)) rd674 le675 hy733) rfl ?_)
        rintro _ _ _ _ ⟨rfl, rfl, rfl⟩
        refine TA.next (fun W hO => hO) ?_
        refine TA.take 28 rfl (by kernel_rfl) rfl (PQ.then_ (PQ.then_ (PQ.then_ PQ.body))) (Wt.yes rfl rfl rfl hk731) (Val.move rfl) (fun W hO => hO) ?_
        refine TK.split (p := y732 = true) h (fun hg734 h => ?_) (fun hg734 h => ?_)
        ·
         have hk735 : y732 = true := hg734
         refine TA.take 29 rfl (by kernel_rfl) rfl (PQ.then_ (PQ.then_ (PQ.then_ PQ.body))) (Wt.yes rfl rfl rfl hk735) (Val.loadsB 3 (cs := [.int .i64 4, .int .i64 0, .slice A89 l88.length c90]) agg24 fsz24 rfl rfl rfl rfl) (fun W hO => hO) ?_
         refine TA.take 31 rfl (by kernel_rfl) rfl (PQ.then_ (PQ.then_ (PQ.then_ PQ.body))) (Wt.yes rfl rfl rfl hk735) (Val.loadsB 2 (cs := [.int .i64 a0.f0, .int .i64 a0.f1, .slice A1 a0.f2.length c2]) agg24 fsz24 rfl rfl rfl rfl) (fun W hO => hO) ?_
         obtain ⟨y736, hy737, h⟩ := bind_no h
         refine TA.eff 30 rfl (by kernel_rfl) rfl (TL.callV (Lin := []) (args := [.agg #[.int .i64 4, .int .i64 0, .slice A89 l88.length c90]]) (Wt.yes rfl rfl rfl hk735) rfl rfl hbd17 rfl rfl (types_Size.calls (a0 := (⟨4, 0, l88⟩ : S24)) rd674 le675 hy737) rfl ?_)
         rintro _ _ _ _ ⟨rfl, rfl, rfl⟩
         refine TA.next (fun W hO => hO) ?_
         obtain ⟨y738, hy739, h⟩ := bind_no h
         refine TA.eff 32 rfl (by kernel_rfl) rfl (TL.callV (Lin := []) (args := [.agg #[.int .i64 a0.f0, .int .i64 a0.f1, .slice A1 a0.f2.length c2]]) (Wt.yes rfl rfl rfl hk735) rfl rfl hbd17 rfl rfl (types_Size.calls (a0 := a0) (hr3.up (Gd.le.trans (Gd.le.trans e659 e665) e671)) hl4 hy739) rfl ?_)
         rintro _ _ _ _ ⟨rfl, rfl, rfl⟩
         refine TA.next (fun W hO => hO) ?_
         refine TA.take 33 rfl (by kernel_rfl) rfl (PQ.then_ (PQ.then_ (PQ.then_ PQ.body))) (Wt.yes rfl rfl rfl hk735) (Val.cmp rfl rfl run_mul) (fun W hO => hO) ?_
         refine TA.take 34 rfl (by kernel_rfl) rfl (PQ.then_ (PQ.then_ (PQ.then_ PQ.body))) (Wt.yes rfl rfl rfl hk735) (Val.cmp rfl rfl run_neq) (fun W hO => hO) ?_
         refine TA.take 35 rfl (by kernel_rfl) rfl (PQ.then_ (PQ.then_ (PQ.then_ PQ.body))) (Wt.yes rfl rfl rfl hk731) (Val.pickY rfl hk735 rfl) (fun W hO => hO) ?_
         refine TA.take 36 rfl (by kernel_rfl) rfl (PQ.then_ (PQ.then_ (PQ.then_ PQ.body))) rfl (Val.pickN rfl hk731 rfl) (fun W hO => hO) ?_
         refine TA.done (by kernel_rfl) ?_
         refine TQ.back hb673 ?_
         refine TQ.back hb667 ?_
         refine TQ.back hb661 ?_
         exact fun a W hF hO => ⟨(!decide (y736 = (IntKind.i64.wrap (2 * y738)))), h, hF.sub ⟨rfl, rfl, rfl, rfl, rfl, rfl, rfl, trivial⟩, hO.selT (Ls := [Blk b30 [.int .i64 y25.f0, .int .i64 y25.f1, .slice A27 y25.f2.length c28] 24, Blk b37 [.int .i64 3, .int .i64 a1, .slice A85 ([y31] : List S24).length c86] 24, Blk b5 [.int .i64 a0.f0, .int .i64 a0.f1, .slice A1 a0.f2.length c2] 24, Blk b84 [.int .i64 4, .int .i64 0, .slice A89 l88.length c90] 24, Row k24 24 (.slice A27 y25.f2.length c28) y25.f2, Row k24 24 (.slice A85 ([y31] : List S24).length c86) ([y31] : List S24), Row k24 24 (.slice A89 l88.length c90) l88]) [3, 4, 5, 6, 0, 1, 2] 7 rfl rfl rfl⟩
        ·
         have hk740 : y732 = false := (by simpa using hg734)
         refine TA.not 29 rfl (by kernel_rfl) rfl (PQ.then_ (PQ.then_ (PQ.then_ PQ.body))) (Wt.no rfl rfl rfl hk740) (fun W hO => hO) ?_
         refine TA.not 30 rfl (by kernel_rfl) rfl (PQ.then_ (PQ.then_ (PQ.then_ PQ.body))) (Wt.no rfl rfl rfl hk740) (fun W hO => hO) ?_
         refine TA.not 31 rfl (by kernel_rfl) rfl (PQ.then_ (PQ.then_ (PQ.then_ PQ.body))) (Wt.no rfl rfl rfl hk740) (fun W hO => hO) ?_
         refine TA.not 32 rfl (by kernel_rfl) rfl (PQ.then_ (PQ.then_ (PQ.then_ PQ.body))) (Wt.no rfl rfl rfl hk740) (fun W hO => hO) ?_
         refine TA.not 33 rfl (by kernel_rfl) rfl (PQ.then_ (PQ.then_ (PQ.then_ PQ.body))) (Wt.no rfl rfl rfl hk740) (fun W hO => hO) ?_
         refine TA.not 34 rfl (by kernel_rfl) rfl (PQ.then_ (PQ.then_ (PQ.then_ PQ.body))) (Wt.no rfl rfl rfl hk740) (fun W hO => hO) ?_
         refine TA.take 35 rfl (by kernel_rfl) rfl (PQ.then_ (PQ.then_ (PQ.then_ PQ.body))) (Wt.yes rfl rfl rfl hk731) (Val.pickN rfl hk740 rfl) (fun W hO => hO) ?_
         refine TA.take 36 rfl (by kernel_rfl) rfl (PQ.then_ (PQ.then_ (PQ.then_ PQ.body))) rfl (Val.pickN rfl hk731 rfl) (fun W hO => hO) ?_
         refine TA.done (by kernel_rfl) ?_
         refine TQ.back hb673 ?_
         refine TQ.back hb667 ?_
         refine TQ.back hb661 ?_
         exact fun a W hF hO => ⟨false, h, hF.sub ⟨rfl, rfl, rfl, rfl, rfl, rfl, rfl, trivial⟩, hO.selT (Ls := [Blk b30 [.int .i64 y25.f0, .int .i64 y25.f1, .slice A27 y25.f2.length c28] 24, Blk b37 [.int .i64 3, .int .i64 a1, .slice A85 ([y31] : List S24).length c86] 24, Blk b5 [.int .i64 a0.f0, .int .i64 a0.f1, .slice A1 a0.f2.length c2] 24, Blk b84 [.int .i64 4, .int .i64 0, .slice A89 l88.length c90] 24, Row k24 24 (.slice A27 y25.f2.length c28) y25.f2, Row k24 24 (.slice A85 ([y31] : List S24).length c86) ([y31] : List S24), Row k24 24 (.slice A89 l88.length c90) l88]) [3, 4, 5, 6, 0, 1, 2] 7 rfl rfl rfl⟩
      ·
       have hk741 : y721 = false := (by simpa using hg723)
       refine TA.not 16 rfl (by kernel_rfl) rfl (PQ.then_ (PQ.then_ (PQ.then_ PQ.body))) (Wt.no rfl rfl rfl hk741) (fun W hO => hO) ?_
       refine TA.not 17 rfl (by kernel_rfl) rfl (PQ.then_ (PQ.then_ (PQ.then_ PQ.body))) (Wt.no rfl rfl rfl hk741) (fun W hO => hO) ?_
       refine TA.not 18 rfl (by kernel_rfl) rfl (PQ.then_ (PQ.then_ (PQ.then_ PQ.body))) (Wt.no rfl rfl rfl hk741) (fun W hO => hO) ?_
       refine TA.not 19 rfl (by kernel_rfl) rfl (PQ.then_ (PQ.then_ (PQ.then_ PQ.body))) (Wt.no rfl rfl rfl hk741) (fun W hO => hO) ?_
       refine TA.not 20 rfl (by kernel_rfl) rfl (PQ.then_ (PQ.then_ (PQ.then_ PQ.body))) (Wt.no rfl rfl rfl hk741) (fun W hO => hO) ?_
       refine TA.not 21 rfl (by kernel_rfl) rfl (PQ.then_ (PQ.then_ (PQ.then_ PQ.body))) (Wt.no rfl rfl rfl hk741) (fun W hO => hO) ?_
       refine TA.not 22 rfl (by kernel_rfl) rfl (PQ.then_ (PQ.then_ (PQ.then_ PQ.body))) (Wt.no rfl rfl rfl hk741) (fun W hO => hO) ?_
       refine TA.take 23 rfl (by kernel_rfl) rfl (PQ.then_ (PQ.then_ (PQ.then_ PQ.body))) (Wt.yes rfl rfl rfl rfl) (Val.pickN rfl hk741 rfl) (fun W hO => hO) ?_
       refine TA.take 24 rfl (by kernel_rfl) rfl (PQ.then_ (PQ.then_ (PQ.then_ PQ.body))) rfl (Val.pickN rfl rfl rfl) (fun W hO => hO) ?_
       refine TA.take 25 rfl (by kernel_rfl) rfl (PQ.then_ (PQ.then_ (PQ.then_ PQ.body))) rfl (Val.move rfl) (fun W hO => hO) ?_
       refine TA.take 26 rfl (by kernel_rfl) rfl (PQ.then_ (PQ.then_ (PQ.then_ PQ.body))) (Wt.yes rfl rfl rfl rfl) (Val.loadsB 3 (cs := [.int .i64 4, .int .i64 0, .slice A89 l88.length c90]) agg24 fsz24 rfl rfl rfl rfl) (fun W hO => hO) ?_
       obtain ⟨y742, hy743, h⟩ := bind_no h
       refine TA.eff 27 rfl (by kernel_rfl) rfl (TL.callV (Lin := []) (args := [.agg #[.int .i64 4, .int .i64 0, .slice A89 l88.length c90]]) (Wt.yes rfl rfl rfl rfl) rfl rfl hbd15 rfl rfl (types_Right.calls (a0 := (⟨4, 0, l88⟩ : S24)) rd674 le675 hy743) rfl ?_)
       rintro _ _ _ _ ⟨rfl, rfl, rfl⟩
       refine TA.next (fun W hO => hO) ?_
       refine TA.take 28 rfl (by kernel_rfl) rfl (PQ.then_ (PQ.then_ (PQ.then_ PQ.body))) (Wt.yes rfl rfl rfl rfl) (Val.move rfl) (fun W hO => hO) ?_
       refine TK.split (p := y742 = true) h (fun hg744 h => ?_) (fun hg744 h => ?_)
       ·
        have hk745 : y742 = true := hg744
        refine TA.take 29 rfl (by kernel_rfl) rfl (PQ.then_ (PQ.then_ (PQ.then_ PQ.body))) (Wt.yes rfl rfl rfl hk745) (Val.loadsB 3 (cs := [.int .i64 4, .int .i64 0, .slice A89 l88.length c90]) agg24 fsz24 rfl rfl rfl rfl) (fun W hO => hO) ?_
        refine TA.take 31 rfl (by kernel_rfl) rfl (PQ.then_ (PQ.then_ (PQ.then_ PQ.body))) (Wt.yes rfl rfl rfl hk745) (Val.loadsB 2 (cs := [.int .i64 a0.f0, .int .i64 a0.f1, .slice A1 a0.f2.length c2]) agg24 fsz24 rfl rfl rfl rfl) (fun W hO => hO) ?_
        obtain ⟨y746, hy747, h⟩ := bind_no h
        refine TA.eff 30 rfl (by kernel_rfl) rfl (TL.callV (Lin := []) (args := [.agg #[.int .i64 4, .int .i64 0, .slice A89 l88.length c90]]) (Wt.yes rfl rfl rfl hk745) rfl rfl hbd17 rfl rfl (types_Size.calls (a0 := (⟨4, 0, l88⟩ : S24)) rd674 le675 hy747) rfl ?_)
        rintro _ _ _ _ ⟨rfl, rfl, rfl⟩
        refine TA.next (fun W hO => hO) ?_
        obtain ⟨y748, hy749, h⟩ := bind_no h
        refine TA.eff 32 rfl (by kernel_rfl) rfl (TL.callV (Lin := []) (args := [.agg #[.int .i64 a0.f0, .int .i64 a0.f1, .slice A1 a0.f2.length c2]]) (Wt.yes rfl rfl rfl hk745) rfl rfl hbd17 rfl rfl (types_Size.calls (a0 := a0) (hr3.up (Gd.le.trans (Gd.le.trans e659 e665) e671)) hl4 hy749) rfl ?_)
        rintro _ _ _ _ ⟨rfl, rfl, rfl⟩
        refine TA.next (fun W hO => hO) ?_
        refine TA.take 33 rfl (by kernel_rfl) rfl (PQ.then_ (PQ.then_ (PQ.then_ PQ.body))) (Wt.yes rfl rfl rfl hk745) (Val.cmp rfl rfl run_mul) (fun W hO => hO) ?_
        refine TA.take 34 rfl (by kernel_rfl) rfl (PQ.then_ (PQ.then_ (PQ.then_ PQ.body))) (Wt.yes rfl rfl rfl hk745) (Val.cmp rfl rfl run_neq) (fun W hO => hO) ?_
        refine TA.take 35 rfl (by kernel_rfl) rfl (PQ.then_ (PQ.then_ (PQ.then_ PQ.body))) (Wt.yes rfl rfl rfl rfl) (Val.pickY rfl hk745 rfl) (fun W hO => hO) ?_
        refine TA.take 36 rfl (by kernel_rfl) rfl (PQ.then_ (PQ.then_ (PQ.then_ PQ.body))) rfl (Val.pickN rfl rfl rfl) (fun W hO => hO) ?_
        refine TA.done (by kernel_rfl) ?_
        refine TQ.back hb673 ?_
        refine TQ.back hb667 ?_
        refine TQ.back hb661 ?_
        exact fun a W hF hO => ⟨(!decide (y746 = (IntKind.i64.wrap (2 * y748)))), h, hF.sub ⟨rfl, rfl, rfl, rfl, rfl, rfl, rfl, trivial⟩, hO.selT (Ls := [Blk b30 [.int .i64 y25.f0, .int .i64 y25.f1, .slice A27 y25.f2.length c28] 24, Blk b37 [.int .i64 3, .int .i64 a1, .slice A85 ([y31] : List S24).length c86] 24, Blk b5 [.int .i64 a0.f0, .int .i64 a0.f1, .slice A1 a0.f2.length c2] 24, Blk b84 [.int .i64 4, .int .i64 0, .slice A89 l88.length c90] 24, Row k24 24 (.slice A27 y25.f2.length c28) y25.f2, Row k24 24 (.slice A85 ([y31] : List S24).length c86) ([y31] : List S24), Row k24 24 (.slice A89 l88.length c90) l88]) [3, 4, 5, 6, 0, 1, 2] 7 rfl rfl rfl⟩
       ·
        have hk750 : y742 = false := (by simpa using hg744)
        refine TA.not 29 rfl (by kernel_rfl) rfl (PQ.then_ (PQ.then_ (PQ.then_ PQ.body))) (Wt.no rfl rfl rfl hk750) (fun W hO => hO) ?_
        refine TA.not 30 rfl (by kernel_rfl) rfl (PQ.then_ (PQ.then_ (PQ.then_ PQ.body))) (Wt.no rfl rfl rfl hk750) (fun W hO => hO) ?_
        refine TA.not 31 rfl (by kernel_rfl) rfl (PQ.then_ (PQ.then_ (PQ.then_ PQ.body))) (Wt.no rfl rfl rfl hk750) (fun W hO => hO) ?_
        refine TA.not 32 rfl (by kernel_rfl) rfl (PQ.then_ (PQ.then_ (PQ.then_ PQ.body))) (Wt.no rfl rfl rfl hk750) (fun W hO => hO) ?_
        refine TA.not 33 rfl (by kernel_rfl) rfl (PQ.then_ (PQ.then_ (PQ.then_ PQ.body))) (Wt.no rfl rfl rfl hk750) (fun W hO => hO) ?_
        refine TA.not 34 rfl (by kernel_rfl) rfl (PQ.then_ (PQ.then_ (PQ.then_ PQ.body))) (Wt.no rfl rfl rfl hk750) (fun W hO => hO) ?_
        refine TA.take 35 rfl (by kernel_rfl) rfl (PQ.then_ (PQ.then_ (PQ.then_ PQ.body))) (Wt.yes rfl rfl rfl rfl) (Val.pickN rfl hk750 rfl) (fun W hO => hO) ?_
        refine TA.take 36 rfl (by kernel_rfl) rfl (PQ.then_ (PQ.then_ (PQ.then_ PQ.body))) rfl (Val.pickN rfl rfl rfl) (fun W hO => hO) ?_
        refine TA.done (by kernel_rfl) ?_
        refine TQ.back hb673 ?_
        refine TQ.back hb667 ?_
        refine TQ.back hb661 ?_
        exact fun a W hF hO => ⟨false, h, hF.sub ⟨rfl, rfl, rfl, rfl, rfl, rfl, rfl, trivial⟩, hO.selT (Ls := [Blk b30 [.int .i64 y25.f0, .int .i64 y25.f1, .slice A27 y25.f2.length c28] 24, Blk b37 [.int .i64 3, .int .i64 a1, .slice A85 ([y31] : List S24).length c86] 24, Blk b5 [.int .i64 a0.f0, .int .i64 a0.f1, .slice A1 a0.f2.length c2] 24, Blk b84 [.int .i64 4, .int .i64 0, .slice A89 l88.length c90] 24, Row k24 24 (.slice A27 y25.f2.length c28) y25.f2, Row k24 24 (.slice A85 ([y31] : List S24).length c86) ([y31] : List S24), Row k24 24 (.slice A89 l88.length c90) l88]) [3, 4, 5, 6, 0, 1, 2] 7 rfl rfl rfl⟩
   ·
    refine TC.new (Els.nil k24) ?_
    refine TC.sel (Ls := [Row k24 24 (.slice A33 y31.f2.length c34) y31.f2, Els k24 [] [], Blk b37 [.int .i64 3, .int .i64 a1, .slice (some ⟨b36, 0, none⟩) 1 1] 24, Blk b36 [.int .i64 y31.f0, .int .i64 y31.f1, .slice A33 y31.f2.length c34] 24, Blk b30 [.int .i64 y25.f0, .int .i64 y25.f1, .slice A27 y25.f2.length c28] 24, Row k24 24 (.slice A27 y25.f2.length c28) y25.f2, Blk b5 [.int .i64 a0.f0, .int .i64 a0.f1, .slice A1 a0.f2.length c2] 24]) [3, 0, 1, 2, 4, 5, 6] 7 rfl rfl rfl ?_
    refine TC.conv (ch' := El k24 y31 [.int .i64 y31.f0, .int .i64 y31.f1, .slice A33 y31.f2.length c34]) (fun B W F hh => k24_mkM W B F y31 hh) ?_
    refine TC.sel (Ls := [Els k24 [] [], El k24 y31 [.int .i64 y31.f0, .int .i64 y31.f1, .slice A33 y31.f2.length c34], Blk b37 [.int .i64 3, .int .i64 a1, .slice (some ⟨b36, 0, none⟩) 1 1] 24, Blk b36 [.int .i64 y31.f0, .int .i64 y31.f1, .slice A33 y31.f2.length c34] 24, Blk b30 [.int .i64 y25.f0, .int .i64 y25.f1, .slice A27 y25.f2.length c28] 24, Row k24 24 (.slice A27 y25.f2.length c28) y25.f2, Blk b5 [.int .i64 a0.f0, .int .i64 a0.f1, .slice A1 a0.f2.length c2] 24]) [1, 0, 2, 3, 4, 5, 6] 7 rfl rfl rfl ?_
    refine TC.two (ch := Els k24 [y31] [.int .i64 y31.f0, .int .i64 y31.f1, .slice A33 y31.f2.length c34]) (Els.snoc k24) ?_
    refine TC.sel (Ls := [Blk b36 [.int .i64 y31.f0, .int .i64 y31.f1, .slice A33 y31.f2.length c34] 24, Els k24 [y31] [.int .i64 y31.f0, .int .i64 y31.f1, .slice A33 y31.f2.length c34], Blk b37 [.int .i64 3, .int .i64 a1, .slice (some ⟨b36, 0, none⟩) 1 1] 24, Blk b30 [.int .i64 y25.f0, .int .i64 y25.f1, .slice A27 y25.f2.length c28] 24, Row k24 24 (.slice A27 y25.f2.length c28) y25.f2, Blk b5 [.int .i64 a0.f0, .int .i64 a0.f1, .slice A1 a0.f2.length c2] 24]) [2, 0, 1, 3, 4, 5] 6 rfl rfl rfl ?_
    refine TC.two (ch := Row k24 24 (.slice (some ⟨b36, 0, none⟩) 1 1) ([y31] : List S24)) (Row.lit k24 rfl rfl) ?_
    refine TC.regionAny [] [0, 2, 5] mixed (by kernel_rfl) ?_
    refine TA.take 0 rfl (by kernel_rfl) rfl (PQ.then_ (PQ.then_ PQ.body)) rfl (Val.loadsB 4 (cs := [.int .i64 a0.f0, .int .i64 a0.f1, .slice A1 a0.f2.length c2]) agg24 fsz24 rfl rfl rfl rfl) (fun W hO => hO) ?_
    refine TA.take 2 rfl (by kernel_rfl) rfl (PQ.then_ (PQ.then_ PQ.body)) rfl (Val.loadsB 4 (cs := [.int .i64 a0.f0, .int .i64 a0.f1, .slice A1 a0.f2.length c2]) agg24 fsz24 rfl rfl rfl rfl) (fun W hO => hO) ?_
    refine TA.effs 1 [6] (by kernel_rfl) ⟨⟨_, rfl, ?_⟩, ⟨_, rfl, ?_⟩, trivial⟩
    ·
     obtain ⟨y764, hy765, h⟩ := bind_no h
     refine TL.callV (Lin := []) (args := [.agg #[.int .i64 a0.f0, .int .i64 a0.f1, .slice A1 a0.f2.length c2]]) rfl rfl rfl hbd10 rfl rfl (types_Copy.calls (a0 := a0) hr3 hl4 hy765) rfl ?_
     rintro _ _ _ _ ⟨rfl, A766, c767, rfl, rfl⟩
     refine TA.next (fun W hO => hO.selT (Ls := [Row k24 24 (.slice (some ⟨b36, 0, none⟩) 1 1) ([y31] : List S24), Blk b37 [.int .i64 3, .int .i64 a1, .slice (some ⟨b36, 0, none⟩) 1 1] 24, Blk b30 [.int .i64 y25.f0, .int .i64 y25.f1, .slice A27 y25.f2.length c28] 24, Row k24 24 (.slice A27 y25.f2.length c28) y25.f2, Blk b5 [.int .i64 a0.f0, .int .i64 a0.f1, .slice A1 a0.f2.length c2] 24]) [1, 2, 3, 4, 5] 6 rfl rfl rfl) ?_
     refine TA.effs 3 [6] (by kernel_rfl) ⟨⟨_, rfl, ?_⟩, ⟨_, rfl, ?_⟩, trivial⟩
     ·
      obtain ⟨y769, hy770, h⟩ := bind_no h
      refine TL.callV (Lin := []) (args := [.agg #[.int .i64 a0.f0, .int .i64 a0.f1, .slice A1 a0.f2.length c2]]) rfl rfl rfl hbd10 rfl rfl (types_Copy.calls (a0 := a0) hr3 hl4 hy770) rfl ?_
      rintro _ _ _ _ ⟨rfl, A771, c772, rfl, rfl⟩
      refine TA.next (fun W hO => hO.selT (Ls := [Row k24 24 (.slice (some ⟨b36, 0, none⟩) 1 1) ([y31] : List S24), Blk b37 [.int .i64 3, .int .i64 a1, .slice (some ⟨b36, 0, none⟩) 1 1] 24, Blk b30 [.int .i64 y25.f0, .int .i64 y25.f1, .slice A27 y25.f2.length c28] 24, Row k24 24 (.slice A27 y25.f2.length c28) y25.f2, Blk b5 [.int .i64 a0.f0, .int .i64 a0.f1, .slice A1 a0.f2.length c2] 24]) [2, 3, 4, 5, 6] 7 rfl rfl rfl) ?_
      refine TA.effs 4 [6] (by kernel_rfl) ⟨⟨_, rfl, ?_⟩, ⟨_, rfl, ?_⟩, trivial⟩
      ·
       refine TL.buildSlice (xs := [.tmp 38, .tmp 40]) (vs := [.agg #[.int .i64 y764.f0, .int .i64 y764.f1, .slice A766 y764.f2.length c767], .agg #[.int .i64 y769.f0, .int .i64 y769.f1, .slice A771 y769.f2.length c772]]) (cs := [.int .i64 y764.f0, .int .i64 y764.f1, .slice A766 y764.f2.length c767, .int .i64 y769.f0, .int .i64 y769.f1, .slice A771 y769.f2.length c772]) rfl rfl Tryd.underlying22 zs24 rfl rfl rfl rfl rfl rfl rfl rfl (fun b774 => ?_)
       refine TA.next (fun W hO => hO.selT (Ls := [Row k24 24 (.slice (some ⟨b36, 0, none⟩) 1 1) ([y31] : List S24), Blk b37 [.int .i64 3, .int .i64 a1, .slice (some ⟨b36, 0, none⟩) 1 1] 24, Blk b30 [.int .i64 y25.f0, .int .i64 y25.f1, .slice A27 y25.f2.length c28] 24, Row k24 24 (.slice A27 y25.f2.length c28) y25.f2, Blk b5 [.int .i64 a0.f0, .int .i64 a0.f1, .slice A1 a0.f2.length c2] 24]) [3, 4, 5, 6, 7] 8 rfl rfl rfl) ?_
       refine TA.take 5 rfl (by kernel_rfl) rfl (PQ.then_ (PQ.then_ PQ.body)) rfl (Val.build (cs := [.int .i64 4, .int .i64 0, .slice (some ⟨b774, 0, none⟩) 2 2]) (is := [0, 2]) (xs := [.const (.int .i64 4), .tmp 41]) Tryd.underlying24 zr24 bld24 rfl rfl rfl rfl) (fun W hO => hO.selT (Ls := [Row k24 24 (.slice (some ⟨b36, 0, none⟩) 1 1) ([y31] : List S24), Blk b37 [.int .i64 3, .int .i64 a1, .slice (some ⟨b36, 0, none⟩) 1 1] 24, Blk b30 [.int .i64 y25.f0, .int .i64 y25.f1, .slice A27 y25.f2.length c28] 24, Row k24 24 (.slice A27 y25.f2.length c28) y25.f2, Blk b5 [.int .i64 a0.f0, .int .i64 a0.f1, .slice A1 a0.f2.length c2] 24]) [3, 4, 5, 6, 7] 8 rfl rfl rfl) ?_
       refine TA.eff 6 rfl (by kernel_rfl) rfl (TL.alloc (cs := [.int .i64 0, .int .i64 0, .slice none 0 0]) rfl rfl zr24 rfl (fun b775 => ?_))
       refine TA.next (fun W hO => hO.selT (Ls := [Row k24 24 (.slice (some ⟨b36, 0, none⟩) 1 1) ([y31] : List S24), Blk b37 [.int .i64 3, .int .i64 a1, .slice (some ⟨b36, 0, none⟩) 1 1] 24, Blk b30 [.int .i64 y25.f0, .int .i64 y25.f1, .slice A27 y25.f2.length c28] 24, Row k24 24 (.slice A27 y25.f2.length c28) y25.f2, Blk b5 [.int .i64 a0.f0, .int .i64 a0.f1, .slice A1 a0.f2.length c2] 24]) [4, 5, 6, 7, 8] 9 rfl rfl rfl) ?_
       refine TA.eff 7 rfl (by kernel_rfl) rfl (TL.store 0 (ds := [.int .i64 4, .int .i64 0, .slice (some ⟨b774, 0, none⟩) 2 2]) (cs' := [.int .i64 4, .int .i64 0, .slice (some ⟨b774, 0, none⟩) 2 2]) (L' := (Blk b775 [.int .i64 4, .int .i64 0, .slice (some ⟨b774, 0, none⟩) 2 2] 24 :: Blk b774 [.int .i64 y764.f0, .int .i64 y764.f1, .slice A766 y764.f2.length c767, .int .i64 y769.f0, .int .i64 y769.f1, .slice A771 y769.f2.length c772] 24 :: Row k24 24 (.slice A771 y769.f2.length c772) y769.f2 :: Row k24 24 (.slice A766 y764.f2.length c767) y764.f2 :: Row k24 24 (.slice (some ⟨b36, 0, none⟩) 1 1) ([y31] : List S24) :: Blk b37 [.int .i64 3, .int .i64 a1, .slice (some ⟨b36, 0, none⟩) 1 1] 24 :: Blk b30 [.int .i64 y25.f0, .int .i64 y25.f1, .slice A27 y25.f2.length c28] 24 :: Row k24 24 (.slice A27 y25.f2.length c28) y25.f2 :: Blk b5 [.int .i64 a0.f0, .int .i64 a0.f1, .slice A1 a0.f2.length c2] 24 :: L)) rfl fsz24 rfl rfl rfl rfl rfl (Nat.le_of_ble_eq_true rfl) rfl rfl ?_)
       refine TA.next (fun W hO => hO.selT (Ls := [Row k24 24 (.slice (some ⟨b36, 0, none⟩) 1 1) ([y31] : List S24), Blk b37 [.int .i64 3, .int .i64 a1, .slice (some ⟨b36, 0, none⟩) 1 1] 24, Blk b30 [.int .i64 y25.f0, .int .i64 y25.f1, .slice A27 y25.f2.length c28] 24, Row k24 24 (.slice A27 y25.f2.length c28) y25.f2, Blk b5 [.int .i64 a0.f0, .int .i64 a0.f1, .slice A1 a0.f2.length c2] 24]) [4, 5, 6, 7, 8] 9 rfl rfl rfl) ?_
       refine TA.done (by kernel_rfl) ?_
       refine TQ.new (Els.nil k24) ?_
       refine TQ.sel (Ls := [Row k24 24 (.slice A766 y764.f2.length c767) y764.f2, Els k24 [] [], Blk b775 [.int .i64 4, .int .i64 0, .slice (some ⟨b774, 0, none⟩) 2 2] 24, Blk b774 [.int .i64 y764.f0, .int .i64 y764.f1, .slice A766 y764.f2.length c767, .int .i64 y769.f0, .int .i64 y769.f1, .slice A771 y769.f2.length c772] 24, Row k24 24 (.slice A771 y769.f2.length c772) y769.f2, Row k24 24 (.slice (some ⟨b36, 0, none⟩) 1 1) ([y31] : List S24), Blk b37 [.int .i64 3, .int .i64 a1, .slice (some ⟨b36, 0, none⟩) 1 1] 24, Blk b30 [.int .i64 y25.f0, .int .i64 y25.f1, .slice A27 y25.f2.length c28] 24, Row k24 24 (.slice A27 y25.f2.length c28) y25.f2, Blk b5 [.int .i64 a0.f0, .int .i64 a0.f1, .slice A1 a0.f2.length c2] 24]) [4, 0, 1, 2, 3, 5, 6, 7, 8, 9] 10 rfl rfl rfl ?_
       refine TQ.conv (ch' := El k24 y764 [.int .i64 y764.f0, .int .i64 y764.f1, .slice A766 y764.f2.length c767]) (fun B W F hh => k24_mkM W B F y764 hh) ?_
       refine TQ.sel (Ls := [Els k24 [] [], El k24 y764 [.int .i64 y764.f0, .int .i64 y764.f1, .slice A766 y764.f2.length c767], Blk b775 [.int .i64 4, .int .i64 0, .slice (some ⟨b774, 0, none⟩) 2 2] 24, Blk b774 [.int .i64 y764.f0, .int .i64 y764.f1, .slice A766 y764.f2.length c767, .int .i64 y769.f0, .int .i64 y769.f1, .slice A771 y769.f2.length c772] 24, Row k24 24 (.slice A771 y769.f2.length c772) y769.f2, Row k24 24 (.slice (some ⟨b36, 0, none⟩) 1 1) ([y31] : List S24), Blk b37 [.int .i64 3, .int .i64 a1, .slice (some ⟨b36, 0, none⟩) 1 1] 24, Blk b30 [.int .i64 y25.f0, .int .i64 y25.f1, .slice A27 y25.f2.length c28] 24, Row k24 24 (.slice A27 y25.f2.length c28) y25.f2, Blk b5 [.int .i64 a0.f0, .int .i64 a0.f1, .slice A1 a0.f2.length c2] 24]) [1, 0, 2, 3, 4, 5, 6, 7, 8, 9] 10 rfl rfl rfl ?_
       refine TQ.two (ch := Els k24 [y764] [.int .i64 y764.f0, .int .i64 y764.f1, .slice A766 y764.f2.length c767]) (Els.snoc k24) ?_
       refine TQ.sel (Ls := [Row k24 24 (.slice A771 y769.f2.length c772) y769.f2, Els k24 [y764] [.int .i64 y764.f0, .int .i64 y764.f1, .slice A766 y764.f2.length c767], Blk b775 [.int .i64 4, .int .i64 0, .slice (some ⟨b774, 0, none⟩) 2 2] 24, Blk b774 [.int .i64 y764.f0, .int .i64 y764.f1, .slice A766 y764.f2.length c767, .int .i64 y769.f0, .int .i64 y769.f1, .slice A771 y769.f2.length c772] 24, Row k24 24 (.slice (some ⟨b36, 0, none⟩) 1 1) ([y31] : List S24), Blk b37 [.int .i64 3, .int .i64 a1, .slice (some ⟨b36, 0, none⟩) 1 1] 24, Blk b30 [.int .i64 y25.f0, .int .i64 y25.f1, .slice A27 y25.f2.length c28] 24, Row k24 24 (.slice A27 y25.f2.length c28) y25.f2, Blk b5 [.int .i64 a0.f0, .int .i64 a0.f1, .slice A1 a0.f2.length c2] 24]) [3, 0, 1, 2, 4, 5, 6, 7, 8] 9 rfl rfl rfl ?_
       refine TQ.conv (ch' := El k24 y769 [.int .i64 y769.f0, .int .i64 y769.f1, .slice A771 y769.f2.length c772]) (fun B W F hh => k24_mkM W B F y769 hh) ?_
       refine TQ.sel (Ls := [Els k24 [y764] [.int .i64 y764.f0, .int .i64 y764.f1, .slice A766 y764.f2.length c767], El k24 y769 [.int .i64 y769.f0, .int .i64 y769.f1, .slice A771 y769.f2.length c772], Blk b775 [.int .i64 4, .int .i64 0, .slice (some ⟨b774, 0, none⟩) 2 2] 24, Blk b774 [.int .i64 y764.f0, .int .i64 y764.f1, .slice A766 y764.f2.length c767, .int .i64 y769.f0, .int .i64 y769.f1, .slice A771 y769.f2.length c772] 24, Row k24 24 (.slice (some ⟨b36, 0, none⟩) 1 1) ([y31] : List S24), Blk b37 [.int .i64 3, .int .i64 a1, .slice (some ⟨b36, 0, none⟩) 1 1] 24, Blk b30 [.int .i64 y25.f0, .int .i64 y25.f1, .slice A27 y25.f2.length c28] 24, Row k24 24 (.slice A27 y25.f2.length c28) y25.f2, Blk b5 [.int .i64 a0.f0, .int .i64 a0.f1, .slice A1 a0.f2.length c2] 24]) [1, 0, 2, 3, 4, 5, 6, 7, 8] 9 rfl rfl rfl ?_
       refine TQ.two (ch := Els k24 [y764, y769] [.int .i64 y764.f0, .int .i64 y764.f1, .slice A766 y764.f2.length c767, .int .i64 y769.f0, .int .i64 y769.f1, .slice A771 y769.f2.length c772]) (Els.snoc k24) ?_
       refine TQ.sel (Ls := [Blk b774 [.int .i64 y764.f0, .int .i64 y764.f1, .slice A766 y764.f2.length c767, .int .i64 y769.f0, .int .i64 y769.f1, .slice A771 y769.f2.length c772] 24, Els k24 [y764, y769] [.int .i64 y764.f0, .int .i64 y764.f1, .slice A766 y764.f2.length c767, .int .i64 y769.f0, .int .i64 y769.f1, .slice A771 y769.f2.length c772], Blk b775 [.int .i64 4, .int .i64 0, .slice (some ⟨b774, 0, none⟩) 2 2] 24, Row k24 24 (.slice (some ⟨b36, 0, none⟩) 1 1) ([y31] : List S24), Blk b37 [.int .i64 3, .int .i64 a1, .slice (some ⟨b36, 0, none⟩) 1 1] 24, Blk b30 [.int .i64 y25.f0, .int .i64 y25.f1, .slice A27 y25.f2.length c28] 24, Row k24 24 (.slice A27 y25.f2.length c28) y25.f2, Blk b5 [.int .i64 a0.f0, .int .i64 a0.f1, .slice A1 a0.f2.length c2] 24]) [2, 0, 1, 3, 4, 5, 6, 7] 8 rfl rfl rfl ?_
       refine TQ.two (ch := Row k24 24 (.slice (some ⟨b774, 0, none⟩) 2 2) ([y764, y769] : List S24)) (Row.lit k24 rfl rfl) ?_
       exact fun a W hF hO => ⟨([y764, y769] : List S24), b775, (some ⟨b36, 0, none⟩), 1, (some ⟨b774, 0, none⟩), 2, h, hF.sub ⟨rfl, rfl, rfl, rfl, rfl, rfl, trivial⟩, hO.selT (Ls := [Blk b30 [.int .i64 y25.f0, .int .i64 y25.f1, .slice A27 y25.f2.length c28] 24, Blk b37 [.int .i64 3, .int .i64 a1, .slice (some ⟨b36, 0, none⟩) ([y31] : List S24).length 1] 24, Blk b5 [.int .i64 a0.f0, .int .i64 a0.f1, .slice A1 a0.f2.length c2] 24, Blk b775 [.int .i64 4, .int .i64 0, .slice (some ⟨b774, 0, none⟩) ([y764, y769] : List S24).length 2] 24, Row k24 24 (.slice A27 y25.f2.length c28) y25.f2, Row k24 24 (.slice (some ⟨b36, 0, none⟩) ([y31] : List S24).length 1) ([y31] : List S24), Row k24 24 (.slice (some ⟨b774, 0, none⟩) ([y764, y769] : List S24).length 2) ([y764, y769] : List S24)]) [4, 3, 6, 1, 5, 2, 0] 7 rfl rfl rfl⟩
      ·
       refine TL.alloc (cs := [.int .i64 0, .int .i64 0, .slice none 0 0]) rfl rfl zr24 rfl (fun b777 => ?_)
       refine TA.next (fun W hO => hO.selT (Ls := [Row k24 24 (.slice (some ⟨b36, 0, none⟩) 1 1) ([y31] : List S24), Blk b37 [.int .i64 3, .int .i64 a1, .slice (some ⟨b36, 0, none⟩) 1 1] 24, Blk b30 [.int .i64 y25.f0, .int .i64 y25.f1, .slice A27 y25.f2.length c28] 24, Row k24 24 (.slice A27 y25.f2.length c28) y25.f2, Blk b5 [.int .i64 a0.f0, .int .i64 a0.f1, .slice A1 a0.f2.length c2] 24]) [3, 4, 5, 6, 7] 8 rfl rfl rfl) ?_
       refine TA.eff 4 rfl (by kernel_rfl) rfl (TL.buildSlice (xs := [.tmp 38, .tmp 40]) (vs := [.agg #[.int .i64 y764.f0, .int .i64 y764.f1, .slice A766 y764.f2.length c767], .agg #[.int .i64 y769.f0, .int .i64 y769.f1, .slice A771 y769.f2.length c772]]) (cs := [.int .i64 y764.f0, .int .i64 y764.f1, .slice A766 y764.f2.length c767, .int .i64 y769.f0, .int .i64 y769.f1, .slice A771 y769.f2.length c772]) rfl rfl Tryd.underlying22 zs24 rfl rfl rfl rfl rfl rfl rfl rfl (fun b778 => ?_))
       refine TA.next (fun W hO => hO.selT (Ls := [Row k24 24 (.slice (some ⟨b36, 0, none⟩) 1 1) ([y31] : List S24), Blk b37 [.int .i64 3, .int .i64 a1, .slice (some ⟨b36, 0, none⟩) 1 1] 24, Blk b30 [.int .i64 y25.f0, .int .i64 y25.f1, .slice A27 y25.f2.length c28] 24, Row k24 24 (.slice A27 y25.f2.length c28) y25.f2, Blk b5 [.int .i64 a0.f0, .int .i64 a0.f1, .slice A1 a0.f2.length c2] 24]) [4, 5, 6, 7, 8] 9 rfl rfl rfl) ?_
       refine TA.take 5 rfl (by kernel_rfl) rfl (PQ.then_ (PQ.then_ PQ.body)) rfl (Val.build (cs := [.int .i64 4, .int .i64 0, .slice (some ⟨b778, 0, none⟩) 2 2]) (is := [0, 2]) (xs := [.const (.int .i64 4), .tmp 41]) Tryd.underlying24 zr24 bld24 rfl rfl rfl rfl) (fun W hO => hO.selT (Ls := [Row k24 24 (.slice (some ⟨b36, 0, none⟩) 1 1) ([y31] : List S24), Blk b37 [.int .i64 3, .int .i64 a1, .slice (some ⟨b36, 0, none⟩) 1 1] 24, Blk b30 [.int .i64 y25.f0, .int .i64 y25.f1, .slice A27 y25.f2.length c28] 24, Row k24 24 (.slice A27 y25.f2.length c28) y25.f2, Blk b5 [.int .i64 a0.f0, .int .i64 a0.f1, .slice A1 a0.f2.length c2] 24]) [4, 5, 6, 7, 8] 9 rfl rfl rfl) ?_
       refine TA.eff 7 rfl (by kernel_rfl) rfl (TL.store 1 (ds := [.int .i64 4, .int .i64 0, .slice (some ⟨b778, 0, none⟩) 2 2]) (cs' := [.int .i64 4, .int .i64 0, .slice (some ⟨b778, 0, none⟩) 2 2]) (L' := (Blk b778 [.int .i64 y764.f0, .int .i64 y764.f1, .slice A766 y764.f2.length c767, .int .i64 y769.f0, .int .i64 y769.f1, .slice A771 y769.f2.length c772] 24 :: Blk b777 [.int .i64 4, .int .i64 0, .slice (some ⟨b778, 0, none⟩) 2 2] 24 :: Row k24 24 (.slice A771 y769.f2.length c772) y769.f2 :: Row k24 24 (.slice A766 y764.f2.length c767) y764.f2 :: Row k24 24 (.slice (some ⟨b36, 0, none⟩) 1 1) ([y31] : List S24) :: Blk b37 [.int .i64 3, .int .i64 a1, .slice (some ⟨b36, 0, none⟩) 1 1] 24 :: Blk b30 [.int .i64 y25.f0, .int .i64 y25.f1, .slice A27 y25.f2.length c28] 24 :: Row k24 24 (.slice A27 y25.f2.length c28) y25.f2 :: Blk b5 [.int .i64 a0.f0, .int .i64 a0.f1, .slice A1 a0.f2.length c2] 24 :: L)) rfl fsz24 rfl rfl rfl rfl rfl (Nat.le_of_ble_eq_true rfl) rfl rfl ?_)
       refine TA.next (fun W hO => hO.selT (Ls := [Row k24 24 (.slice (some ⟨b36, 0, none⟩) 1 1) ([y31] : List S24), Blk b37 [.int .i64 3, .int .i64 a1, .slice (some ⟨b36, 0, none⟩) 1 1] 24, Blk b30 [.int .i64 y25.f0, .int .i64 y25.f1, .slice A27 y25.f2.length c28] 24, Row k24 24 (.slice A27 y25.f2.length c28) y25.f2, Blk b5 [.int .i64 a0.f0, .int .i64 a0.f1, .slice A1 a0.f2.length c2] 24]) [4, 5, 6, 7, 8] 9 rfl rfl rfl) ?_
       refine TA.done (by kernel_rfl) ?_
       refine TQ.new (Els.nil k24) ?_
       refine TQ.sel (Ls := [Row k24 24 (.slice A766 y764.f2.length c767) y764.f2, Els k24 [] [], Blk b778 [.int .i64 y764.f0, .int .i64 y764.f1, .slice A766 y764.f2.length c767, .int .i64 y769.f0, .int .i64 y769.f1, .slice A771 y769.f2.length c772] 24, Blk b777 [.int .i64 4, .int .i64 0, .slice (some ⟨b778, 0, none⟩) 2 2] 24, Row k24 24 (.slice A771 y769.f2.length c772) y769.f2, Row k24 24 (.slice (some ⟨b36, 0, none⟩) 1 1) ([y31] : List S24), Blk b37 [.int .i64 3, .int .i64 a1, .slice (some ⟨b36, 0, none⟩) 1 1] 24, Blk b30 [.int .i64 y25.f0, .int .i64 y25.f1, .slice A27 y25.f2.length c28] 24, Row k24 24 (.slice A27 y25.f2.length c28) y25.f2, Blk b5 [.int .i64 a0.f0, .int .i64 a0.f1, .slice A1 a0.f2.length c2] 24]) [4, 0, 1, 2, 3, 5, 6, 7, 8, 9] 10 rfl rfl rfl ?_
       refine TQ.conv (ch' := El k24 y764 [.int .i64 y764.f0, .int .i64 y764.f1, .slice A766 y764.f2.length c767]) (fun B W F hh => k24_mkM W B F y764 hh) ?_
       refine TQ.sel (Ls := [Els k24 [] [], El k24 y764 [.int .i64 y764.f0, .int .i64 y764.f1, .slice A766 y764.f2.length c767], Blk b778 [.int .i64 y764.f0, .int .i64 y764.f1, .slice A766 y764.f2.length c767, .int .i64 y769.f0, .int .i64 y769.f1, .slice A771 y769.f2.length c772] 24, Blk b777 [.int .i64 4, .int .i64 0, .slice (some ⟨b778, 0, none⟩) 2 2] 24, Row k24 24 (.slice A771 y769.f2.length c772) y769.f2, Row k24 24 (.slice (some ⟨b36, 0, none⟩) 1 1) ([y31] : List S24), Blk b37 [.int .i64 3, .int .i64 a1, .slice (some ⟨b36, 0, none⟩) 1 1] 24, Blk b30 [.int .i64 y25.f0, .int .i64 y25.f1, .slice A27 y25.f2.length c28] 24, Row k24 24 (.slice A27 y25.f2.length c28) y25.f2, Blk b5 [.int .i64 a0.f0, .int .i64 a0.f1, .slice A1 a0.f2.length c2] 24]) [1, 0, 2, 3, 4, 5, 6, 7, 8, 9] 10 rfl rfl rfl ?_
       refine TQ.two (ch := Els k24 [y764] [.int .i64 y764.f0, .int .i64 y764.f1, .slice A766 y764.f2.length c767]) (Els.snoc k24) ?_
       refine TQ.sel (Ls := [Row k24 24 (.slice A771 y769.f2.length c772) y769.f2, Els k24 [y764] [.int .i64 y764.f0, .int .i64 y764.f1, .slice A766 y764.f2.length c767], Blk b778 [.int .i64 y764.f0, .int .i64 y764.f1, .slice A766 y764.f2.length c767, .int .i64 y769.f0, .int .i64 y769.f1, .slice A771 y769.f2.length c772] 24, Blk b777 [.int .i64 4, .int .i64 0, .slice (some ⟨b778, 0, none⟩) 2 2] 24, Row k24 24 (.slice (some ⟨b36, 0, none⟩) 1 1) ([y31] : List S24), Blk b37 [.int .i64 3, .int .i64 a1, .slice (some ⟨b36, 0, none⟩) 1 1] 24, Blk b30 [.int .i64 y25.f0, .int .i64 y25.f1, .slice A27 y25.f2.length c28] 24, Row k24 24 (.slice A27 y25.f2.length c28) y25.f2, Blk b5 [.int .i64 a0.f0, .int .i64 a0.f1, .slice A1 a0.f2.length c2] 24]) [3, 0, 1, 2, 4, 5, 6, 7, 8] 9 rfl rfl rfl ?_
       refine TQ.conv (ch' := El k24 y769 [.int .i64 y769.f0, .int .i64 y769.f1, .slice A771 y769.f2.length c772]) (fun B W F hh => k24_mkM W B F y769 hh) ?_
       refine TQ.sel (Ls := [Els k24 [y764] [.int .i64 y764.f0, .int .i64 y764.f1, .slice A766 y764.f2.length c767], El k24 y769 [.int .i64 y769.f0, .int .i64 y769.f1, .slice A771 y769.f2.length c772], Blk b778 [.int .i64 y764.f0, .int .i64 y764.f1, .slice A766 y764.f2.length c767, .int .i64 y769.f0, .int .i64 y769.f1, .slice A771 y769.f2.length c772] 24, Blk b777 [.int .i64 4, .int .i64 0, .slice (some ⟨b778, 0, none⟩) 2 2] 24, Row k24 24 (.slice (some ⟨b36, 0, none⟩) 1 1) ([y31] : List S24), Blk b37 [.int .i64 3, .int .i64 a1, .slice (some ⟨b36, 0, none⟩) 1 1] 24, Blk b30 [.int .i64 y25.f0, .int .i64 y25.f1, .slice A27 y25.f2.length c28] 24, Row k24 24 (.slice A27 y25.f2.length c28) y25.f2, Blk b5 [.int .i64 a0.f0, .int .i64 a0.f1, .slice A1 a0.f2.length c2] 24]) [1, 0, 2, 3, 4, 5, 6, 7, 8] 9 rfl rfl rfl ?_
       refine TQ.two (ch := Els k24 [y764, y769] [.int .i64 y764.f0, .int .i64 y764.f1, .slice A766 y764.f2.length c767, .int .i64 y769.f0, .int .i64 y769.f1, .slice A771 y769.f2.length c772]) (Els.snoc k24) ?_
       refine TQ.sel (Ls := [Blk b778 [.int .i64 y764.f0, .int .i64 y764.f1, .slice A766 y764.f2.length c767, .int .i64 y769.f0, .int .i64 y769.f1, .slice A771 y769.f2.length c772] 24, Els k24 [y764, y769] [.int .i64 y764.f0, .int .i64 y764.f1, .slice A766 y764.f2.length c767, .int .i64 y769.f0, .int .i64 y769.f1, .slice A771 y769.f2.length c772], Blk b777 [.int .i64 4, .int .i64 0, .slice (some ⟨b778, 0, none⟩) 2 2] 24, Row k24 24 (.slice (some ⟨b36, 0, none⟩) 1 1) ([y31] : List S24), Blk b37 [.int .i64 3, .int .i64 a1, .slice (some ⟨b36, 0, none⟩) 1 1] 24, Blk b30 [.int .i64 y25.f0, .int .i64 y25.f1, .slice A27 y25.f2.length c28] 24, Row k24 24 (.slice A27 y25.f2.length c28) y25.f2, Blk b5 [.int .i64 a0.f0, .int .i64 a0.f1, .slice A1 a0.f2.length c2] 24]) [1, 0, 2, 3, 4, 5, 6, 7] 8 rfl rfl rfl ?_
       refine TQ.two (ch := Row k24 24 (.slice (some ⟨b778, 0, none⟩) 2 2) ([y764, y769] : List S24)) (Row.lit k24 rfl rfl) ?_
       exact fun a W hF hO => ⟨([y764, y769] : List S24), b777, (some ⟨b36, 0, none⟩), 1, (some ⟨b778, 0, none⟩), 2, h, hF.sub ⟨rfl, rfl, rfl, rfl, rfl, rfl, trivial⟩, hO.selT (Ls := [Blk b30 [.int .i64 y25.f0, .int .i64 y25.f1, .slice A27 y25.f2.length c28] 24, Blk b37 [.int .i64 3, .int .i64 a1, .slice (some ⟨b36, 0, none⟩) ([y31] : List S24).length 1] 24, Blk b5 [.int .i64 a0.f0, .int .i64 a0.f1, .slice A1 a0.f2.length c2] 24, Blk b777 [.int .i64 4, .int .i64 0, .slice (some ⟨b778, 0, none⟩) ([y764, y769] : List S24).length 2] 24, Row k24 24 (.slice A27 y25.f2.length c28) y25.f2, Row k24 24 (.slice (some ⟨b36, 0, none⟩) ([y31] : List S24).length 1) ([y31] : List S24), Row k24 24 (.slice (some ⟨b778, 0, none⟩) ([y764, y769] : List S24).length 2) ([y764, y769] : List S24)]) [4, 3, 6, 1, 5, 2, 0] 7 rfl rfl rfl⟩
     ·
      refine TL.alloc (cs := [.int .i64 0, .int .i64 0, .slice none 0 0]) rfl rfl zr24 rfl (fun b780 => ?_)
      refine TA.next (fun W hO => hO.selT (Ls := [Row k24 24 (.slice (some ⟨b36, 0, none⟩) 1 1) ([y31] : List S24), Blk b37 [.int .i64 3, .int .i64 a1, .slice (some ⟨b36, 0, none⟩) 1 1] 24, Blk b30 [.int .i64 y25.f0, .int .i64 y25.f1, .slice A27 y25.f2.length c28] 24, Row k24 24 (.slice A27 y25.f2.length c28) y25.f2, Blk b5 [.int .i64 a0.f0, .int .i64 a0.f1, .slice A1 a0.f2.length c2] 24]) [2, 3, 4, 5, 6] 7 rfl rfl rfl) ?_
      obtain ⟨y781, hy782, h⟩ := bind_no h
      refine TA.eff 3 rfl (by kernel_rfl) rfl (TL.callV (Lin := []) (args := [.agg #[.int .i64 a0.f0, .int .i64 a0.f1, .slice A1 a0.f2.length c2]]) rfl rfl rfl hbd10 rfl rfl (types_Copy.calls (a0 := a0) hr3 hl4 hy782) rfl ?_)
      rintro _ _ _ _ ⟨rfl, A783, c784, rfl, rfl⟩
      refine TA.next (fun W hO => hO.selT (Ls := [Row k24 24 (.slice (some ⟨b36, 0, none⟩) 1 1) ([y31] : List S24), Blk b37 [.int .i64 3, .int .i64 a1, .slice (some ⟨b36, 0, none⟩) 1 1] 24, Blk b30 [.int .i64 y25.f0, .int .i64 y25.f1, .slice A27 y25.f2.length c28] 24, Row k24 24 (.slice A27 y25.f2.length c28) y25.f2, Blk b5 [.int .i64 a0.f0, .int .i64 a0.f1, .slice A1 a0.f2.length c2] 24]) [3, 4, 5, 6, 7] 8 rfl rfl rfl) ?_
      refine TA.eff 4 rfl (by kernel_rfl) rfl (TL.buildSlice (xs := [.tmp 38, .tmp 40]) (vs := [.agg #[.int .i64 y764.f0, .int .i64 y764.f1, .slice A766 y764.f2.length c767], .agg #[.int .i64 y781.f0, .int .i64 y781.f1, .slice A783 y781.f2.length c784]]) (cs := [.int .i64 y764.f0, .int .i64 y764.f1, .slice A766 y764.f2.length c767, .int .i64 y781.f0, .int .i64 y781.f1, .slice A783 y781.f2.length c784]) rfl rfl Tryd.underlying22 zs24 rfl rfl rfl rfl rfl rfl rfl rfl (fun b786 => ?_))
      refine TA.next (fun W hO => hO.selT (Ls := [Row k24 24 (.slice (some ⟨b36, 0, none⟩) 1 1) ([y31] : List S24), Blk b37 [.int .i64 3, .int .i64 a1, .slice (some ⟨b36, 0, none⟩) 1 1] 24, Blk b30 [.int .i64 y25.f0, .int .i64 y25.f1, .slice A27 y25.f2.length c28] 24, Row k24 24 (.slice A27 y25.f2.length c28) y25.f2, Blk b5 [.int .i64 a0.f0, .int .i64 a0.f1, .slice A1 a0.f2.length c2] 24]) [4, 5, 6, 7, 8] 9 rfl rfl rfl) ?_
      refine TA.take 5 rfl (by kernel_rfl) rfl (PQ.then_ (PQ.then_ PQ.body)) rfl (Val.build (cs := [.int .i64 4, .int .i64 0, .slice (some ⟨b786, 0, none⟩) 2 2]) (is := [0, 2]) (xs := [.const (.int .i64 4), .tmp 41]) Tryd.underlying24 zr24 bld24 rfl rfl rfl rfl) (fun W hO => hO.selT (Ls := [Row k24 24 (.slice (some ⟨b36, 0, none⟩) 1 1) ([y31] : List S24), Blk b37 [.int .i64 3, .int .i64 a1, .slice (some ⟨b36, 0, none⟩) 1 1] 24, Blk b30 [.int .i64 y25.f0, .int .i64 y25.f1, .slice A27 y25.f2.length c28] 24, Row k24 24 (.slice A27 y25.f2.length c28) y25.f2, Blk b5 [.int .i64 a0.f0, .int .i64 a0.f1, .slice A1 a0.f2.length c2] 24]) [4, 5, 6, 7, 8] 9 rfl rfl rfl) ?_
      refine TA.eff 7 rfl (by kernel_rfl) rfl (TL.store 2 (ds := [.int .i64 4, .int .i64 0, .slice (some ⟨b786, 0, none⟩) 2 2]) (cs' := [.int .i64 4, .int .i64 0, .slice (some ⟨b786, 0, none⟩) 2 2]) (L' := (Blk b786 [.int .i64 y764.f0, .int .i64 y764.f1, .slice A766 y764.f2.length c767, .int .i64 y781.f0, .int .i64 y781.f1, .slice A783 y781.f2.length c784] 24 :: Row k24 24 (.slice A783 y781.f2.length c784) y781.f2 :: Blk b780 [.int .i64 4, .int .i64 0, .slice (some ⟨b786, 0, none⟩) 2 2] 24 :: Row k24 24 (.slice A766 y764.f2.length c767) y764.f2 :: Row k24 24 (.slice (some ⟨b36, 0, none⟩) 1 1) ([y31] : List S24) :: Blk b37 [.int .i64 3, .int .i64 a1, .slice (some ⟨b36, 0, none⟩) 1 1] 24 :: Blk b30 [.int .i64 y25.f0, .int .i64 y25.f1, .slice A27 y25.f2.length c28] 24 :: Row k24 24 (.slice A27 y25.f2.length c28) y25.f2 :: Blk b5 [.int .i64 a0.f0, .int .i64 a0.f1, .slice A1 a0.f2.length c2] 24 :: L)) rfl fsz24 rfl rfl rfl rfl rfl (Nat.le_of_ble_eq_true rfl) rfl rfl ?_)
      refine TA.next (fun W hO => hO.selT (Ls := [Row k24 24 (.slice (some ⟨b36, 0, none⟩) 1 1) ([y31] : List S24), Blk b37 [.int .i64 3, .int .i64 a1, .slice (some ⟨b36, 0, none⟩) 1 1] 24, Blk b30 [.int .i64 y25.f0, .int .i64 y25.f1, .slice A27 y25.f2.length c28] 24, Row k24 24 (.slice A27 y25.f2.length c28) y25.f2, Blk b5 [.int .i64 a0.f0, .int .i64 a0.f1, .slice A1 a0.f2.length c2] 24]) [4, 5, 6, 7, 8] 9 rfl rfl rfl) ?_
      refine TA.done (by kernel_rfl) ?_
      refine TQ.new (Els.nil k24) ?_
      refine TQ.sel (Ls := [Row k24 24 (.slice A766 y764.f2.length c767) y764.f2, Els k24 [] [], Blk b786 [.int .i64 y764.f0, .int .i64 y764.f1, .slice A766 y764.f2.length c767, .int .i64 y781.f0, .int .i64 y781.f1, .slice A783 y781.f2.length c784] 24, Row k24 24 (.slice A783 y781.f2.length c784) y781.f2, Blk b780 [.int .i64 4, .int .i64 0, .slice (some ⟨b786, 0, none⟩) 2 2] 24, Row k24 24 (.slice (some ⟨b36, 0, none⟩) 1 1) ([y31] : List S24), Blk b37 [.int .i64 3, .int .i64 a1, .slice (some ⟨b36, 0, none⟩) 1 1] 24, Blk b30 [.int .i64 y25.f0, .int .i64 y25.f1, .slice A27 y25.f2.length c28] 24, Row k24 24 (.slice A27 y25.f2.length c28) y25.f2, Blk b5 [.int .i64 a0.f0, .int .i64 a0.f1, .slice A1 a0.f2.length c2] 24]) [4, 0, 1, 2, 3, 5, 6, 7, 8, 9] 10 rfl rfl rfl ?_
      refine TQ.conv (ch' := El k24 y764 [.int .i64 y764.f0, .int .i64 y764.f1, .slice A766 y764.f2.length c767]) (fun B W F hh => k24_mkM W B F y764 hh) ?_
      refine TQ.sel (Ls := [Els k24 [] [], El k24 y764 [.int .i64 y764.f0, .int .i64 y764.f1, .slice A766 y764.f2.length c767], Blk b786 [.int .i64 y764.f0, .int .i64 y764.f1, .slice A766 y764.f2.length c767, .int .i64 y781.f0, .int .i64 y781.f1, .slice A783 y781.f2.length c784] 24, Row k24 24 (.slice A783 y781.f2.length c784) y781.f2, Blk b780 [.int .i64 4, .int .i64 0, .slice (some ⟨b786, 0, none⟩) 2 2] 24, Row k24 24 (.slice (some ⟨b36, 0, none⟩) 1 1) ([y31] : List S24), Blk b37 [.int .i64 3, .int .i64 a1, .slice (some ⟨b36, 0, none⟩) 1 1] 24, Blk b30 [.int .i64 y25.f0, .int .i64 y25.f1, .slice A27 y25.f2.length c28] 24, Row k24 24 (.slice A27 y25.f2.length c28) y25.f2, Blk b5 [.int .i64 a0.f0, .int .i64 a0.f1, .slice A1 a0.f2.length c2] 24]) [1, 0, 2, 3, 4, 5, 6, 7, 8, 9] 10 rfl rfl rfl ?_
      refine TQ.two (ch := Els k24 [y764] [.int .i64 y764.f0, .int .i64 y764.f1, .slice A766 y764.f2.length c767]) (Els.snoc k24) ?_
      refine TQ.sel (Ls := [Row k24 24 (.slice A783 y781.f2.length c784) y781.f2, Els k24 [y764] [.int .i64 y764.f0, .int .i64 y764.f1, .slice A766 y764.f2.length c767], Blk b786 [.int .i64 y764.f0, .int .i64 y764.f1, .slice A766 y764.f2.length c767, .int .i64 y781.f0, .int .i64 y781.f1, .slice A783 y781.f2.length c784] 24, Blk b780 [.int .i64 4, .int .i64 0, .slice (some ⟨b786, 0, none⟩) 2 2] 24, Row k24 24 (.slice (some ⟨b36, 0, none⟩) 1 1) ([y31] : List S24), Blk b37 [.int .i64 3, .int .i64 a1, .slice (some ⟨b36, 0, none⟩) 1 1] 24, Blk b30 [.int .i64 y25.f0, .int .i64 y25.f1, .slice A27 y25.f2.length c28] 24, Row k24 24 (.slice A27 y25.f2.length c28) y25.f2, Blk b5 [.int .i64 a0.f0, .int .i64 a0.f1, .slice A1 a0.f2.length c2] 24]) [2, 0, 1, 3, 4, 5, 6, 7, 8] 9 rfl rfl rfl ?_
      refine TQ.conv (ch' := El k24 y781 [.int .i64 y781.f0, .int .i64 y781.f1, .slice A783 y781.f2.length c784]) (fun B W F hh => k24_mkM W B F y781 hh) ?_
      refine TQ.sel (Ls := [Els k24 [y764] [.int .i64 y764.f0, .int .i64 y764.f1, .slice A766 y764.f2.length c767], El k24 y781 [.int .i64 y781.f0, .int .i64 y781.f1, .slice A783 y781.f2.length c784], Blk b786 [.int .i64 y764.f0, .int .i64 y764.f1, .slice A766 y764.f2.length c767, .int .i64 y781.f0, .int .i64 y781.f1, .slice A783 y781.f2.length c784] 24, Blk b780 [.int .i64 4, .int .i64 0, .slice (some ⟨b786, 0, none⟩) 2 2] 24, Row k24 24 (.slice (some ⟨b36, 0, none⟩) 1 1) ([y31] : List S24), Blk b37 [.int .i64 3, .int .i64 a1, .slice (some ⟨b36, 0, none⟩) 1 1] 24, Blk b30 [.int .i64 y25.f0, .int .i64 y25.f1, .slice A27 y25.f2.length c28] 24, Row k24 24 (.slice A27 y25.f2.length c28) y25.f2, Blk b5 [.int .i64 a0.f0, .int .i64 a0.f1, .slice A1 a0.f2.length c2] 24]) [1, 0, 2, 3, 4, 5, 6, 7, 8] 9 rfl rfl rfl ?_
      refine TQ.two (ch := Els k24 [y764, y781] [.int .i64 y764.f0, .int .i64 y764.f1, .slice A766 y764.f2.length c767, .int .i64 y781.f0, .int .i64 y781.f1, .slice A783 y781.f2.length c784]) (Els.snoc k24) ?_
      refine TQ.sel (Ls := [Blk b786 [.int .i64 y764.f0, .int .i64 y764.f1, .slice A766 y764.f2.length c767, .int .i64 y781.f0, .int .i64 y781.f1, .slice A783 y781.f2.length c784] 24, Els k24 [y764, y781] [.int .i64 y764.f0, .int .i64 y764.f1, .slice A766 y764.f2.length c767, .int .i64 y781.f0, .int .i64 y781.f1, .slice A783 y781.f2.length c784], Blk b780 [.int .i64 4, .int .i64 0, .slice (some ⟨b786, 0, none⟩) 2 2] 24, Row k24 24 (.slice (some ⟨b36, 0, none⟩) 1 1) ([y31] : List S24), Blk b37 [.int .i64 3, .int .i64 a1, .slice (some ⟨b36, 0, none⟩) 1 1] 24, Blk b30 [.int .i64 y25.f0, .int .i64 y25.f1, .slice A27 y25.f2.length c28] 24, Row k24 24 (.slice A27 y25.f2.length c28) y25.f2, Blk b5 [.int .i64 a0.f0, .int .i64 a0.f1, .slice A1 a0.f2.length c2] 24]) [1, 0, 2, 3, 4, 5, 6, 7] 8 rfl rfl rfl ?_
      refine TQ.two (ch := Row k24 24 (.slice (some ⟨b786, 0, none⟩) 2 2) ([y764, y781] : List S24)) (Row.lit k24 rfl rfl) ?_
      exact fun a W hF hO => ⟨([y764, y781] : List S24), b780, (some ⟨b36, 0, none⟩), 1, (some ⟨b786, 0, none⟩), 2, h, hF.sub ⟨rfl, rfl, rfl, rfl, rfl, rfl, trivial⟩, hO.selT (Ls := [Blk b30 [.int .i64 y25.f0, .int .i64 y25.f1, .slice A27 y25.f2.length c28] 24, Blk b37 [.int .i64 3, .int .i64 a1, .slice (some ⟨b36, 0, none⟩) ([y31] : List S24).length 1] 24, Blk b5 [.int .i64 a0.f0, .int .i64 a0.f1, .slice A1 a0.f2.length c2] 24, Blk b780 [.int .i64 4, .int .i64 0, .slice (some ⟨b786, 0, none⟩) ([y764, y781] : List S24).length 2] 24, Row k24 24 (.slice A27 y25.f2.length c28) y25.f2, Row k24 24 (.slice (some ⟨b36, 0, none⟩) ([y31] : List S24).length 1) ([y31] : List S24), Row k24 24 (.slice (some ⟨b786, 0, none⟩) ([y764, y781] : List S24).length 2) ([y764, y781] : List S24)]) [4, 3, 6, 1, 5, 2, 0] 7 rfl rfl rfl⟩
    ·
     refine TL.alloc (cs := [.int .i64 0, .int .i64 0, .slice none 0 0]) rfl rfl zr24 rfl (fun b788 => ?_)
     refine TA.next (fun W hO => hO.selT (Ls := [Row k24 24 (.slice (some ⟨b36, 0, none⟩) 1 1) ([y31] : List S24), Blk b37 [.int .i64 3, .int .i64 a1, .slice (some ⟨b36, 0, none⟩) 1 1] 24, Blk b30 [.int .i64 y25.f0, .int .i64 y25.f1, .slice A27 y25.f2.length c28] 24, Row k24 24 (.slice A27 y25.f2.length c28) y25.f2, Blk b5 [.int .i64 a0.f0, .int .i64 a0.f1, .slice A1 a0.f2.length c2] 24]) [1, 2, 3, 4, 5] 6 rfl rfl rfl) ?_
     obtain ⟨y789, hy790, h⟩ := bind_no h
     refine TA.eff 1 rfl (by kernel_rfl) rfl (TL.callV (Lin := []) (args := [.agg #[.int .i64 a0.f0, .int .i64 a0.f1, .slice A1 a0.f2.length c2]]) rfl rfl rfl hbd10 rfl rfl (types_Copy.calls (a0 := a0) hr3 hl4 hy790) rfl ?_)
     rintro _ _ _ _ ⟨rfl, A791, c792, rfl, rfl⟩
     refine TA.next (fun W hO => hO.selT (Ls := [Row k24 24 (.slice (some ⟨b36, 0, none⟩) 1 1) ([y31] : List S24), Blk b37 [.int .i64 3, .int .i64 a1, .slice (some ⟨b36, 0, none⟩) 1 1] 24, Blk b30 [.int .i64 y25.f0, .int .i64 y25.f1, .slice A27 y25.f2.length c28] 24, Row k24 24 (.slice A27 y25.f2.length c28) y25.f2, Blk b5 [.int .i64 a0.f0, .int .i64 a0.f1, .slice A1 a0.f2.length c2] 24]) [2, 3, 4, 5, 6] 7 rfl rfl rfl) ?_
     obtain ⟨y794, hy795, h⟩ := bind_no h
     refine TA.eff 3 rfl (by kernel_rfl) rfl (TL.callV (Lin := []) (args := [.agg #[.int .i64 a0.f0, .int .i64 a0.f1, .slice A1 a0.f2.length c2]]) rfl rfl rfl hbd10 rfl rfl (types_Copy.calls (a0 := a0) hr3 hl4 hy795) rfl ?_)
     rintro _ _ _ _ ⟨rfl, A796, c797, rfl, rfl⟩
     refine TA.next (fun W hO => hO.selT (Ls := [Row k24 24 (.slice (some ⟨b36, 0, none⟩) 1 1) ([y31] : List S24), Blk b37 [.int .i64 3, .int .i64 a1, .slice (some ⟨b36, 0, none⟩) 1 1] 24, Blk b30 [.int .i64 y25.f0, .int .i64 y25.f1, .slice A27 y25.f2.length c28] 24, Row k24 24 (.slice A27 y25.f2.length c28) y25.f2, Blk b5 [.int .i64 a0.f0, .int .i64 a0.f1, .slice A1 a0.f2.length c2] 24]) [3, 4, 5, 6, 7] 8 rfl rfl rfl) ?_
     refine TA.eff 4 rfl (by kernel_rfl) rfl (TL.buildSlice (xs := [.tmp 38, .tmp 40]) (vs := [.agg #[.int .i64 y789.f0, .int .i64 y789.f1, .slice A791 y789.f2.length c792], .agg #[.int .i64 y794.f0, .int .i64 y794.f1, .slice A796 y794.f2.length c797]]) (cs := [.int .i64 y789.f0, .int .i64 y789.f1, .slice A791 y789.f2.length c792, .int .i64 y794.f0, .int .i64 y794.f1, .slice A796 y794.f2.length c797]) rfl rfl Tryd.underlying22 zs24 rfl rfl rfl rfl rfl rfl rfl rfl (fun b799 => ?_))
     refine TA.next (fun W hO => hO.selT (Ls := [Row k24 24 (.slice (some ⟨b36, 0, none⟩) 1 1) ([y31] : List S24), Blk b37 [.int .i64 3, .int .i64 a1, .slice (some ⟨b36, 0, none⟩) 1 1] 24, Blk b30 [.int .i64 y25.f0, .int .i64 y25.f1, .slice A27 y25.f2.length c28] 24, Row k24 24 (.slice A27 y25.f2.length c28) y25.f2, Blk b5 [.int .i64 a0.f0, .int .i64 a0.f1, .slice A1 a0.f2.length c2] 24]) [4, 5, 6, 7, 8] 9 rfl rfl rfl) ?_
     refine TA.take 5 rfl (by kernel_rfl) rfl (PQ.then_ (PQ.then_ PQ.body)) rfl (Val.build (cs := [.int .i64 4, .int .i64 0, .slice (some ⟨b799, 0, none⟩) 2 2]) (is := [0, 2]) (xs := [.const (.int .i64 4), .tmp 41]) Tryd.underlying24 zr24 bld24 rfl rfl rfl rfl) (fun W hO => hO.selT (Ls := [Row k24 24 (.slice (some ⟨b36, 0, none⟩) 1 1) ([y31] : List S24), Blk b37 [.int .i64 3, .int .i64 a1, .slice (some ⟨b36, 0, none⟩) 1 1] 24, Blk b30 [.int .i64 y25.f0, .int .i64 y25.f1, .slice A27 y25.f2.length c28] 24, Row k24 24 (.slice A27 y25.f2.length c28) y25.f2, Blk b5 [.int .i64 a0.f0, .int .i64 a0.f1, .slice A1 a0.f2.length c2] 24]) [4, 5, 6, 7, 8] 9 rfl rfl rfl) ?_
     refine TA.eff 7 rfl (by kernel_rfl) rfl (TL.store 3 (ds := [.int .i64 4, .int .i64 0, .slice (some ⟨b799, 0, none⟩) 2 2]) (cs' := [.int .i64 4, .int .i64 0, .slice (some ⟨b799, 0, none⟩) 2 2]) (L' := (Blk b799 [.int .i64 y789.f0, .int .i64 y789.f1, .slice A791 y789.f2.length c792, .int .i64 y794.f0, .int .i64 y794.f1, .slice A796 y794.f2.length c797] 24 :: Row k24 24 (.slice A796 y794.f2.length c797) y794.f2 :: Row k24 24 (.slice A791 y789.f2.length c792) y789.f2 :: Blk b788 [.int .i64 4, .int .i64 0, .slice (some ⟨b799, 0, none⟩) 2 2] 24 :: Row k24 24 (.slice (some ⟨b36, 0, none⟩) 1 1) ([y31] : List S24) :: Blk b37 [.int .i64 3, .int .i64 a1, .slice (some ⟨b36, 0, none⟩) 1 1] 24 :: Blk b30 [.int .i64 y25.f0, .int .i64 y25.f1, .slice A27 y25.f2.length c28] 24 :: Row k24 24 (.slice A27 y25.f2.length c28) y25.f2 :: Blk b5 [.int .i64 a0.f0, .int .i64 a0.f1, .slice A1 a0.f2.length c2] 24 :: L)) rfl fsz24 rfl rfl rfl rfl rfl (Nat.le_of_ble_eq_true rfl) rfl rfl ?_)
     refine TA.next (fun W hO => hO.selT (Ls := [Row k24 24 (.slice (some ⟨b36, 0, none⟩) 1 1) ([y31] : List S24), Blk b37 [.int .i64 3, .int .i64 a1, .slice (some ⟨b36, 0, none⟩) 1 1] 24, Blk b30 [.int .i64 y25.f0, .int .i64 y25.f1, .slice A27 y25.f2.length c28] 24, Row k24 24 (.slice A27 y25.f2.length c28) y25.f2, Blk b5 [.int .i64 a0.f0, .int .i64 a0.f1, .slice A1 a0.f2.length c2] 24]) [4, 5, 6, 7, 8] 9 rfl rfl rfl) ?_
     refine TA.done (by kernel_rfl) ?_
     refine TQ.new (Els.nil k24) ?_
     refine TQ.sel (Ls := [Row k24 24 (.slice A791 y789.f2.length c792) y789.f2, Els k24 [] [], Blk b799 [.int .i64 y789.f0, .int .i64 y789.f1, .slice A791 y789.f2.length c792, .int .i64 y794.f0, .int .i64 y794.f1, .slice A796 y794.f2.length c797] 24, Row k24 24 (.slice A796 y794.f2.length c797) y794.f2, Blk b788 [.int .i64 4, .int .i64 0, .slice (some ⟨b799, 0, none⟩) 2 2] 24, Row k24 24 (.slice (some ⟨b36, 0, none⟩) 1 1) ([y31] : List S24), Blk b37 [.int .i64 3, .int .i64 a1, .slice (some ⟨b36, 0, none⟩) 1 1] 24, Blk b30 [.int .i64 y25.f0, .int .i64 y25.f1, .slice A27 y25.f2.length c28] 24, Row k24 24 (.slice A27 y25.f2.length c28) y25.f2, Blk b5 [.int .i64 a0.f0, .int .i64 a0.f1, .slice A1 a0.f2.length c2] 24]) [3, 0, 1, 2, 4, 5, 6, 7, 8, 9] 10 rfl rfl rfl ?_
     refine TQ.conv (ch' := El k24 y789 [.int .i64 y789.f0, .int .i64 y789.f1, .slice A791 y789.f2.length c792]) (fun B W F hh => k24_mkM W B F y789 hh) ?_
     refine TQ.sel (Ls := [Els k24 [] [], El k24 y789 [.int .i64 y789.f0, .int .i64 y789.f1, .slice A791 y789.f2.length c792], Blk b799 [.int .i64 y789.f0, .int .i64 y789.f1, .slice A791 y789.f2.length c792, .int .i64 y794.f0, .int .i64 y794.f1, .slice A796 y794.f2.length c797] 24, Row k24 24 (.slice A796 y794.f2.length c797) y794.f2, Blk b788 [.int .i64 4, .int .i64 0, .slice (some ⟨b799, 0, none⟩) 2 2] 24, Row k24 24 (.slice (some ⟨b36, 0, none⟩) 1 1) ([y31] : List S24), Blk b37 [.int .i64 3, .int .i64 a1, .slice (some ⟨b36, 0, none⟩) 1 1] 24, Blk b30 [.int .i64 y25.f0, .int .i64 y25.f1, .slice A27 y25.f2.length c28] 24, Row k24 24 (.slice A27 y25.f2.length c28) y25.f2, Blk b5 [.int .i64 a0.f0, .int .i64 a0.f1, .slice A1 a0.f2.length c2] 24]) [1, 0, 2, 3, 4, 5, 6, 7, 8, 9] 10 rfl rfl rfl ?_
     refine TQ.two (ch := Els k24 [y789] [.int .i64 y789.f0, .int .i64 y789.f1, .slice A791 y789.f2.length c792]) (Els.snoc k24) ?_
     refine TQ.sel (Ls := [Row k24 24 (.slice A796 y794.f2.length c797) y794.f2, Els k24 [y789] [.int .i64 y789.f0, .int .i64 y789.f1, .slice A791 y789.f2.length c792], Blk b799 [.int .i64 y789.f0, .int .i64 y789.f1, .slice A791 y789.f2.length c792, .int .i64 y794.f0, .int .i64 y794.f1, .slice A796 y794.f2.length c797] 24, Blk b788 [.int .i64 4, .int .i64 0, .slice (some ⟨b799, 0, none⟩) 2 2] 24, Row k24 24 (.slice (some ⟨b36, 0, none⟩) 1 1) ([y31] : List S24), Blk b37 [.int .i64 3, .int .i64 a1, .slice (some ⟨b36, 0, none⟩) 1 1] 24, Blk b30 [.int .i64 y25.f0, .int .i64 y25.f1, .slice A27 y25.f2.length c28] 24, Row k24 24 (.slice A27 y25.f2.length c28) y25.f2, Blk b5 [.int .i64 a0.f0, .int .i64 a0.f1, .slice A1 a0.f2.length c2] 24]) [2, 0, 1, 3, 4, 5, 6, 7, 8] 9 rfl rfl rfl ?_
     refine TQ.conv (ch' := El k24 y794 [.int .i64 y794.f0, .int .i64 y794.f1, .slice A796 y794.f2.length c797]) (fun B W F hh => k24_mkM W B F y794 hh) ?_
     refine TQ.sel (Ls := [Els k24 [y789] [.int .i64 y789.f0, .int .i64 y789.f1, .slice A791 y789.f2.length c792], El k24 y794 [.int .i64 y794.f0, .int .i64 y794.f1, .slice A796 y794.f2.length c797], Blk b799 [.int .i64 y789.f0, .int .i64 y789.f1, .slice A791 y789.f2.length c792, .int .i64 y794.f0, .int .i64 y794.f1, .slice A796 y794.f2.length c797] 24, Blk b788 [.int .i64 4, .int .i64 0, .slice (some ⟨b799, 0, none⟩) 2 2] 24, Row k24 24 (.slice (some ⟨b36, 0, none⟩) 1 1) ([y31] : List S24), Blk b37 [.int .i64 3, .int .i64 a1, .slice (some ⟨b36, 0, none⟩) 1 1] 24, Blk b30 [.int .i64 y25.f0, .int .i64 y25.f1, .slice A27 y25.f2.length c28] 24, Row k24 24 (.slice A27 y25.f2.length c28) y25.f2, Blk b5 [.int .i64 a0.f0, .int .i64 a0.f1, .slice A1 a0.f2.length c2] 24]) [1, 0, 2, 3, 4, 5, 6, 7, 8] 9 rfl rfl rfl ?_
     refine TQ.two (ch := Els k24 [y789, y794] [.int .i64 y789.f0, .int .i64 y789.f1, .slice A791 y789.f2.length c792, .int .i64 y794.f0, .int .i64 y794.f1, .slice A796 y794.f2.length c797]) (Els.snoc k24) ?_
     refine TQ.sel (Ls := [Blk b799 [.int .i64 y789.f0, .int .i64 y789.f1, .slice A791 y789.f2.length c792, .int .i64 y794.f0, .int .i64 y794.f1, .slice A796 y794.f2.length c797] 24, Els k24 [y789, y794] [.int .i64 y789.f0, .int .i64 y789.f1, .slice A791 y789.f2.length c792, .int .i64 y794.f0, .int .i64 y794.f1, .slice A796 y794.f2.length c797], Blk b788 [.int .i64 4, .int .i64 0, .slice (some ⟨b799, 0, none⟩) 2 2] 24, Row k24 24 (.slice (some ⟨b36, 0, none⟩) 1 1) ([y31] : List S24), Blk b37 [.int .i64 3, .int .i64 a1, .slice (some ⟨b36, 0, none⟩) 1 1] 24, Blk b30 [.int .i64 y25.f0, .int .i64 y25.f1, .slice A27 y25.f2.length c28] 24, Row k24 24 (.slice A27 y25.f2.length c28) y25.f2, Blk b5 [.int .i64 a0.f0, .int .i64 a0.f1, .slice A1 a0.f2.length c2] 24]) [1, 0, 2, 3, 4, 5, 6, 7] 8 rfl rfl rfl ?_
     refine TQ.two (ch := Row k24 24 (.slice (some ⟨b799, 0, none⟩) 2 2) ([y789, y794] : List S24)) (Row.lit k24 rfl rfl) ?_
     exact fun a W hF hO => ⟨([y789, y794] : List S24), b788, (some ⟨b36, 0, none⟩), 1, (some ⟨b799, 0, none⟩), 2, h, hF.sub ⟨rfl, rfl, rfl, rfl, rfl, rfl, trivial⟩, hO.selT (Ls := [Blk b30 [.int .i64 y25.f0, .int .i64 y25.f1, .slice A27 y25.f2.length c28] 24, Blk b37 [.int .i64 3, .int .i64 a1, .slice (some ⟨b36, 0, none⟩) ([y31] : List S24).length 1] 24, Blk b5 [.int .i64 a0.f0, .int .i64 a0.f1, .slice A1 a0.f2.length c2] 24, Blk b788 [.int .i64 4, .int .i64 0, .slice (some ⟨b799, 0, none⟩) ([y789, y794] : List S24).length 2] 24, Row k24 24 (.slice A27 y25.f2.length c28) y25.f2, Row k24 24 (.slice (some ⟨b36, 0, none⟩) ([y31] : List S24).length 1) ([y31] : List S24), Row k24 24 (.slice (some ⟨b799, 0, none⟩) ([y789, y794] : List S24).length 2) ([y789, y794] : List S24)]) [4, 3, 6, 1, 5, 2, 0] 7 rfl rfl rfl⟩
 ·
  refine TC.region ?_
  refine TL.cons (TO.val rfl rfl rfl (Val.move rfl) ?_)
  refine TL.cons (TO.val rfl rfl rfl (Val.not_ rfl) ?_)
  refine TL.cons (TO.val rfl rfl rfl (Val.move rfl) ?_)
  refine TK.split (p := (!y8) = true) h (fun hg801 h => ?_) (fun hg801 h => ?_)
  ·
   have hk802 : (!y8) = true := hg801
   refine TL.cons (TL.not (Wt.no rfl rfl rfl hk802) rfl ?_)
   refine TL.cons (TL.not (Wt.no rfl rfl rfl hk802) rfl ?_)
   refine TL.cons (TL.not (Wt.no rfl rfl rfl hk802) rfl ?_)
   refine TL.cons (TO.val rfl rfl rfl (Val.pickY rfl hk802 rfl) ?_)
   refine TL.cons (TO.val rfl rfl rfl (Val.move rfl) ?_)
   refine TL.cons (TL.not (Wt.no rfl rfl rfl rfl) rfl ?_)
   refine TL.cons (TL.not (Wt.no rfl rfl rfl rfl) rfl ?_)
   refine TL.cons (TO.val rfl rfl rfl (Val.pickY rfl rfl rfl) ?_)
   refine TL.cons (TO.val rfl rfl rfl (Val.move rfl) ?_)
   refine TL.cons (TL.not (Wt.no rfl rfl rfl rfl) rfl ?_)
   refine TL.cons (TL.not (Wt.no rfl rfl rfl rfl) rfl ?_)
   refine TL.cons (TO.val rfl rfl rfl (Val.pickY rfl rfl rfl) ?_)
   refine TL.nil ?_
   exact fun a W hF hO => ⟨true, h, hF.sub ⟨rfl, rfl, rfl, rfl, trivial⟩, hO.selT (Ls := [Blk b5 [.int .i64 a0.f0, .int .i64 a0.f1, .slice A1 a0.f2.length c2] 24]) [0] 1 rfl rfl rfl⟩
  ·
   have hk803 : (!y8) = false := (by simpa using hg801)
   refine TL.cons (TO.val (Wt.yes rfl rfl rfl hk803) rfl rfl (Val.loadsB 0 (cs := [.int .i64 a0.f0, .int .i64 a0.f1, .slice A1 a0.f2.length c2]) agg24 fsz24 rfl rfl rfl rfl) ?_)
   obtain ⟨y804, hy805, h⟩ := bind_no h
   refine TL.cons (TL.callV (Lin := []) (args := [.agg #[.int .i64 a0.f0, .int .i64 a0.f1, .slice A1 a0.f2.length c2]]) (Wt.yes rfl rfl rfl hk803) rfl rfl hbd15 rfl rfl (types_Right.calls (a0 := a0) hr3 hl4 hy805) rfl ?_)
   rintro _ _ _ _ ⟨rfl, rfl, rfl⟩
   refine TL.cons (TO.val (Wt.yes rfl rfl rfl hk803) rfl rfl (Val.not_ rfl) ?_)
   refine TL.cons (TO.val rfl rfl rfl (Val.pickN rfl hk803 rfl) ?_)
   refine TL.cons (TO.val rfl rfl rfl (Val.move rfl) ?_)
   refine TK.split (p := (!y804) = true) h (fun hg806 h => ?_) (fun hg806 h => ?_)
   ·
    have hk807 : (!y804) = true := hg806
    refine TL.cons (TL.not (Wt.no rfl rfl rfl hk807) rfl ?_)
    refine TL.cons (TL.not (Wt.no rfl rfl rfl hk807) rfl ?_)
    refine TL.cons (TO.val rfl rfl rfl (Val.pickY rfl hk807 rfl) ?_)
    refine TL.cons (TO.val rfl rfl rfl (Val.move rfl) ?_)
    refine TL.cons (TL.not (Wt.no rfl rfl rfl rfl) rfl ?_)
    refine TL.cons (TL.not (Wt.no rfl rfl rfl rfl) rfl ?_)
    refine TL.cons (TO.val rfl rfl rfl (Val.pickY rfl rfl rfl) ?_)
    refine TL.nil ?_
    exact fun a W hF hO => ⟨true, h, hF.sub ⟨rfl, rfl, rfl, rfl, trivial⟩, hO.selT (Ls := [Blk b5 [.int .i64 a0.f0, .int .i64 a0.f1, .slice A1 a0.f2.length c2] 24]) [0] 1 rfl rfl rfl⟩
   ·
    have hk808 : (!y804) = false := (by simpa using hg806)
    refine TL.cons (TO.val (Wt.yes rfl rfl rfl hk808) rfl rfl (Val.move rfl) ?_)
    refine TL.cons (TO.val (Wt.yes rfl rfl rfl hk808) rfl rfl (Val.cmp rfl rfl run_lss) ?_)
    refine TL.cons (TO.val rfl rfl rfl (Val.pickN rfl hk808 rfl) ?_)
    refine TL.cons (TO.val rfl rfl rfl (Val.move rfl) ?_)
    refine TK.split (p := a1 < 1) h (fun hg809 h => ?_) (fun hg809 h => ?_)
    ·
     have hk810 : decide (a1 < 1) = true := decide_eq_true hg809
     refine TL.cons (TL.not (Wt.no rfl rfl rfl hk810) rfl ?_)
     refine TL.cons (TL.not (Wt.no rfl rfl rfl hk810) rfl ?_)
     refine TL.cons (TO.val rfl rfl rfl (Val.pickY rfl hk810 rfl) ?_)
     refine TL.nil ?_
     exact fun a W hF hO => ⟨true, h, hF.sub ⟨rfl, rfl, rfl, rfl, trivial⟩, hO.selT (Ls := [Blk b5 [.int .i64 a0.f0, .int .i64 a0.f1, .slice A1 a0.f2.length c2] 24]) [0] 1 rfl rfl rfl⟩
    ·
     have hk811 : decide (a1 < 1) = false := decide_eq_false hg809
     refine TL.cons (TO.val (Wt.yes rfl rfl rfl hk811) rfl rfl (Val.move rfl) ?_)
     refine TL.cons (TO.val (Wt.yes rfl rfl rfl hk811) rfl rfl (Val.cmp rfl rfl run_gtr) ?_)
     refine TL.cons (TO.val rfl rfl rfl (Val.pickN rfl hk811 rfl) ?_)
     refine TL.nil ?_
     exact fun a W hF hO => ⟨decide (1000 < a1), h, hF.sub ⟨rfl, rfl, rfl, rfl, trivial⟩, hO.selT (Ls := [Blk b5 [.int .i64 a0.f0, .int .i64 a0.f1, .slice A1 a0.f2.length c2] 24]) [0] 1 rfl rfl rfl⟩
end Go.Proofs.YtdklnjmdaecboaaDoor.Sy
set_option linter.unusedVariables false
set_option linter.unusedSimpArgs false
namespace Go.Proofs.YtdklnjmdaecboaaDoor.Sy
open Go Go.RowKit Go.Proofs.YtdklnjmdaecboaaDoorW.PrintWords Go.Proofs.YtdklnjmdaecboaaDoor.SyO
theorem cel_pos (t : S24) : rt t = true → 1 ≤ cel t := by
  refine S24.ind (P := fun t => rt t = true → 1 ≤ cel t) (fun t ih h => ?_) t
  rw [rt_eq] at h
  simp only [Bool.and_eq_true] at h
  rw [cel_eq]
  by_cases a3 : t.f0 = 3
  · obtain ⟨b1, b2, b3⟩ := kok3 h.1.1 a3
    obtain ⟨y, hy, _⟩ := at_head b1
    have hym : y ∈ t.f2 := by rw [hy]; exact List.mem_singleton_self _
    have h1 := ih y hym (rtL_mem h.1.2 hym)
    rw [if_pos a3, hy]
    simp only [celH]
    have : 1 * 1 ≤ cel y * t.f1.toNat := Nat.mul_le_mul h1 (by omega)
    omega
  · rw [if_neg a3]
    by_cases a4 : t.f0 = 4
    · have b1 := (kok4 h.1.1 a4).1
      match hf : t.f2, b1 with
      | y :: r, _ =>
        have hym : y ∈ t.f2 := by rw [hf]; exact List.mem_cons_self
        have h1 := ih y hym (rtL_mem h.1.2 hym)
        rw [if_pos a4]
        simp only [celL]
        omega
    · rw [if_neg a4]; omega
theorem rgt_ptr {t : S24} (h : rt t = true) : rgt (⟨2, 0, [t]⟩ : S24) = decide (dep t + 1 ≤ 100) ∧ cel (⟨2, 0, [t]⟩ : S24) = 1 := by
  have hc : cel (⟨2, 0, [t]⟩ : S24) = 1 := by rw [cel_eq]; rfl
  refine ⟨?_, hc⟩
  unfold rgt
  rw [rt_eq, hc, dep_eq]
  simp [kok, rtL, depL, h]
theorem rgt_arr {t : S24} (h : rt t = true) {n : Int} (n0 : 1 ≤ n) (n1 : n ≤ 1000) : rgt (⟨3, n, [t]⟩ : S24) = (decide (cel t * n.toNat ≤ 1048576) && decide (dep t + 1 ≤ 100)) ∧ cel (⟨3, n, [t]⟩ : S24) = min (cel t * n.toNat) 1048577 := by
  have hc : cel (⟨3, n, [t]⟩ : S24) = min (cel t * n.toNat) 1048577 := by rw [cel_eq]; rfl
  refine ⟨?_, hc⟩
  unfold rgt
  rw [rt_eq, hc, dep_eq]
  have e : decide (min (cel t * n.toNat) 1048577 ≤ 1048576) = decide (cel t * n.toNat ≤ 1048576) := by
    generalize cel t * n.toNat = p
    exact decide_eq_decide.2 (by omega)
  rw [e]
  have n2 : n ≤ 1048576 := by omega
  simp [kok, rtL, depL, h, n0, n2]
theorem rgt_two {t : S24} (h : rt t = true) : rgt (⟨4, 0, [t, t]⟩ : S24) = (decide (2 * cel t ≤ 1048576) && decide (dep t + 1 ≤ 100)) ∧ cel (⟨4, 0, [t, t]⟩ : S24) = min (2 * cel t) 1048577 := by
  have hc : cel (⟨4, 0, [t, t]⟩ : S24) = min (2 * cel t) 1048577 := by
    rw [cel_eq]
    show min (cel t + (cel t + 0)) 1048577 = _
    congr 1; omega
  refine ⟨?_, hc⟩
  unfold rgt
  rw [rt_eq, hc, dep_eq]
  have e : decide (min (2 * cel t) 1048577 ≤ 1048576) = decide (2 * cel t ≤ 1048576) := decide_eq_decide.2 (by omega)
  have e2 : max (dep t) (max (dep t) 0) = dep t := by omega
  rw [e]
  simp [kok, rtL, depL, h]
/-- THE LAW. -/
theorem typesPoint_law (t : S24) (n : Int) (h1 : ok24 t) (h2 : (Lit.int .i64 n).wf = true) : swagelaw11_TypesPoint.f t n = some true := by
  unfold swagelaw11_TypesPoint.f
  obtain ⟨b1, e1, f1⟩ := few_f t
  rw [small_true, e1]
  simp only [jn, Option.bind_some]
  cases b1 with
  | false => simp
  | true =>
  obtain ⟨hc0, hd⟩ := f1 rfl
  have hc : cnt t ≤ 700 := by omega
  rw [right_f (t := t) (by omega) hc, size_f (t := t) (by omega) hc]
  have q2 : types_Copy.f t = some t := copy_fix 1000 t (by omega) hc
  have q3 : types_Pointer.f t = some ⟨2, 0, [t]⟩ := by unfold types_Pointer.f; rw [q2]; rfl
  rw [q2, q3]
  simp only [Option.bind_some, Bool.not_true, Bool.false_eq_true, if_false]
  cases hr : rgt t with
  | false => simp
  | true =>
  simp only [Bool.not_true, Bool.false_eq_true, if_false, if_true]
  by_cases n0 : n < 1
  · simp [n0]
  by_cases n1 : (1000 : Int) < n
  · simp [n0, n1]
  rw [if_neg n0, decide_eq_false n1]
  simp only [Bool.false_eq_true, if_false]
  have hrt : rt t = true := by
    unfold rgt at hr
    rw [Bool.and_eq_true] at hr
    exact hr.1
  have hcel : cel t ≤ 1048576 := by
    rw [rt_eq] at hrt
    simp only [Bool.and_eq_true, decide_eq_true_eq] at hrt
    exact hrt.2
  have hpos := cel_pos t hrt
  obtain ⟨p1, p2⟩ := rgt_ptr hrt
  obtain ⟨a1, a2⟩ := rgt_arr hrt (n := n) (by omega) (by omega)
  obtain ⟨u1, u2⟩ := rgt_two hrt
  have cp : cnt (⟨2, 0, [t]⟩ : S24) ≤ 700 := by rw [cnt_eq]; simp only [cntL]; omega
  have ca : cnt (⟨3, n, [t]⟩ : S24) ≤ 700 := by rw [cnt_eq]; simp only [cntL]; omega
  have cu : cnt (⟨4, 0, [t, t]⟩ : S24) ≤ 700 := by rw [cnt_eq]; simp only [cntL]; omega
  have dp : dep (⟨2, 0, [t]⟩ : S24) ≤ 1000 := by rw [dep_eq]; simp only [depL]; omega
  have da : dep (⟨3, n, [t]⟩ : S24) ≤ 1000 := by rw [dep_eq]; simp only [depL]; omega
  have du : dep (⟨4, 0, [t, t]⟩ : S24) ≤ 1000 := by rw [dep_eq]; simp only [depL]; omega
  have rp := right_f dp cp
  have ra := right_f da ca
  have ru := right_f du cu
  have sp := size_f dp cp
  have sa := size_f da ca
  have su := size_f du cu
  have scp : types_Scalar.f (⟨2, 0, [t]⟩ : S24) = some (rgt (⟨2, 0, [t]⟩ : S24)) := by
    unfold types_Scalar.f
    rw [rp]
    cases rgt (⟨2, 0, [t]⟩ : S24) <;> rfl
  obtain ⟨m, rfl⟩ : ∃ m : Nat, n = (m : Int) := ⟨n.toNat, by omega⟩
  rw [Int.toNat_natCast] at a1 a2
  have hm : cel t * m ≤ 1048576 * 1000 := Nat.mul_le_mul hcel (by omega)
  have w2 : IntKind.i64.wrap (2 * (cel t : Int)) = ((2 * cel t : Nat) : Int) := by rw [w64 (by omega) (by omega)]; omega
  have wm : IntKind.i64.wrap ((m : Int) * (cel t : Int)) = ((cel t * m : Nat) : Int) := by
    rw [← Int.natCast_mul, Nat.mul_comm]
    exact w64 (by omega) (by omega)
  have x1 : (1 : Int) ≤ (cel t : Int) := by omega
  rw [p1] at rp sp scp
  rw [a1] at ra sa
  rw [u1] at ru su
  rw [p2] at sp
  rw [a2] at sa
  rw [u2] at su
  simp only [rp, ra, ru, sp, sa, su, scp, w2, wm, Option.bind_some, x1, if_true]
  generalize cel t * m = q at *
  cases D : decide (dep t + 1 ≤ 100) with
  | false => simp
  | true =>
    by_cases A : q ≤ 1048576
    · have A' : ((q : Nat) : Int) ≤ 1048576 := by omega
      have A2 : ((min q 1048577 : Nat) : Int) = (q : Int) := by omega
      by_cases U : 2 * cel t ≤ 1048576
      · have U' : ((2 * cel t : Nat) : Int) ≤ 1048576 := by omega
        have U2 : ((min (2 * cel t) 1048577 : Nat) : Int) = ((2 * cel t : Nat) : Int) := by omega
        simp only [A, A', A2, U, U', U2, decide_true, decide_false, Bool.and_true, Bool.and_self, if_true, Bool.not_true, Bool.false_eq_true, if_false, beq_self_eq_true]
        rfl
      · have U' : ¬ ((2 * cel t : Nat) : Int) ≤ 1048576 := by omega
        simp only [A, A', A2, U, U', decide_true, decide_false, Bool.and_true, Bool.and_self, if_true, Bool.not_true, Bool.false_eq_true, if_false, beq_self_eq_true]
        rfl
    · have A' : ¬ ((q : Nat) : Int) ≤ 1048576 := by omega
      by_cases U : 2 * cel t ≤ 1048576
      · have U' : ((2 * cel t : Nat) : Int) ≤ 1048576 := by omega
        have U2 : ((min (2 * cel t) 1048577 : Nat) : Int) = ((2 * cel t : Nat) : Int) := by omega
        simp only [A, A', U, U', U2, decide_true, decide_false, Bool.and_true, Bool.and_self, if_true, Bool.not_true, Bool.not_false, Bool.false_eq_true, if_false, beq_self_eq_true]
        rfl
      · have U' : ¬ ((2 * cel t : Nat) : Int) ≤ 1048576 := by omega
        simp only [A, A', U, U', decide_true, decide_false, Bool.and_true, Bool.and_self, if_true, Bool.not_true, Bool.not_false, Bool.false_eq_true, if_false, beq_self_eq_true]
        rfl
end Go.Proofs.YtdklnjmdaecboaaDoor.Sy
