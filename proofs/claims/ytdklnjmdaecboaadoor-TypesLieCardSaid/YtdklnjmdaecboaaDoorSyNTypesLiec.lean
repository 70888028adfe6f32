/- Texts of this work, joined: SyF7, TyS, SyF5, TyL. -/
import Derived.Test.YtdklnjmdaecboaaDoorSyNTypesLieb
set_option linter.unusedVariables false
set_option linter.unusedSimpArgs false
set_option maxRecDepth 100000
set_option maxHeartbeats 4000000
namespace Go.Proofs.YtdklnjmdaecboaaDoor.Sy
open Go Go.RowKit Go.Proofs.YtdklnjmdaecboaaDoorW.PrintWords 
def swagelaw11_small.f : Option Bool := (swagelaw11_some.f).bind fun (y1 : S24) => (types_Offset.f y1 2).bind fun (y12 : (Int × Bool)) => (types_Of.f (⟨6, (⟨#[]⟩ : ByteArray), 0, ([(⟨5, (⟨#[]⟩ : ByteArray), 0, ([] : List S36)⟩ : S36)] : List S36)⟩ : S36)).bind fun (y23 : (S24 × Int)) => (types_Of.f (⟨18, (⟨#[]⟩ : ByteArray), 0, ([] : List S36)⟩ : S36)).bind fun (y29 : (S24 × Int)) => (swagelaw11_some.f).bind fun (y341 : S24) => (types_Right.f y341).bind fun (y352 : Bool) => (if y352 = true then (swagelaw11_some.f).bind fun (y356 : S24) => (types_Size.f y356).bind fun (y367 : Int) => (if y367 = 5 then (if y12.1 = 4 then (if y12.2 = true then (swagelaw11_some.f).bind fun (y375 : S24) => (types_Text.f y375).bind fun (y386 : ByteArray) => (if (y386.data.toList == (⟨#[40, 105, 110, 116, 44, 91, 51, 93, 42, 105, 110, 116, 44, 105, 110, 116, 41]⟩ : ByteArray).data.toList) = true then (if y23.2 = 0 then (types_Pointer.f (⟨1, 0, ([] : List S24)⟩ : S24)).bind fun (y392 : S24) => (types_Same.f y23.1 y392).bind fun (y403 : Bool) => (if y403 = true then (if y29.2 = 1 then (types_Scalar.f y23.1).bind fun (y409 : Bool) => (if y409 = true then (swagelaw11_some.f).bind fun (y413 : S24) => (types_Scalar.f y413).bind fun (y424 : Bool) => some (!y424) else some false) else some false) else some false) else some false) else some false) else some false) else some false) else some false) else some false)
def swagelaw11_small.post (G : Gd) (r : Bool) (v : Value) (G' : Gd) (Lr : List Ch) : Prop := G = G' ∧ v = .bool r ∧ Lr = []
theorem swagelaw11_small.calls {G : Gd} {r : Bool} (ht : Tab G) (h : swagelaw11_small.f = some r) : Fn Tryd.prog 7 G [] [] (swagelaw11_small.post G r) := by
  refine Fn.intro (e := []) 66 Tryd.func7 rfl Tryd.ntmps7 rfl rfl (Nat.le_of_ble_eq_true rfl) (fun L => ?_)
  unfold swagelaw11_small.f at h
  refine TC.seq ?_
  refine TC.region ?_
  refine TL.cons (TO.val rfl rfl rfl (Val.assign rfl) ?_)
  refine TL.nil ?_
  refine TQ.then_ ?_
  refine TC.seq ?_
  refine TC.region ?_
  obtain ⟨y1, hy2, h⟩ := bind_no h
  refine TL.cons (TL.callV (Lin := []) (args := []) rfl rfl rfl hbd27 rfl rfl (swagelaw11_some.calls hy2) rfl ?_)
  rintro _ _ _ _ ⟨rfl, A3, c4, rfl, rfl⟩
  refine TK.share (fun G6 e7 hs8 hb9 => ?_)
  have rd10 : Rd G6 k24 A3 y1.f2 := Rd.row hs8
  have le11 : y1.f2.length ≤ c4 := Row.le hs8
  obtain ⟨y12, hy13, h⟩ := bind_no h
  refine TL.cons (TL.callV (Lin := []) (args := [.agg #[.int .i64 y1.f0, .int .i64 y1.f1, .slice A3 y1.f2.length c4], .int .i64 2]) rfl rfl rfl hbd13 rfl rfl (types_Offset.calls (a0 := y1) (a1 := 2) rd10 le11 hy13) rfl ?_)
  rintro _ _ _ _ ⟨rfl, rfl, rfl⟩
  refine TL.cons (TO.val rfl rfl rfl (Val.move rfl) ?_)
  refine TL.cons (TO.val rfl rfl rfl (Val.extract rfl rfl) ?_)
  refine TL.cons (TO.val rfl rfl rfl (Val.extract rfl rfl) ?_)
  refine TL.cons (TO.val rfl rfl rfl (Val.assign rfl) ?_)
  refine TL.cons (TO.val rfl rfl rfl (Val.assign rfl) ?_)
  refine TL.nil ?_
  refine TQ.then_ ?_
  refine TC.seq ?_
  refine TC.region ?_
  refine TL.cons (TO.val rfl rfl rfl (Val.build (cs := [.int .i64 5, .string (⟨#[]⟩ : ByteArray), .int .i64 0, .slice none 0 0]) (is := [0]) (xs := [.const (.int .i64 5)]) Tryd.underlying36 zr36 bld36 rfl rfl rfl rfl) ?_)
  refine TL.cons (TL.buildSlice (xs := [.tmp 13]) (vs := [.agg #[.int .i64 5, .string (⟨#[]⟩ : ByteArray), .int .i64 0, .slice none 0 0]]) (cs := [.int .i64 5, .string (⟨#[]⟩ : ByteArray), .int .i64 0, .slice none 0 0]) rfl rfl Tryd.underlying34 zs36 rfl rfl rfl rfl rfl rfl rfl rfl (fun b14 => ?_))
  refine TL.cons (TO.val rfl rfl rfl (Val.build (cs := [.int .i64 6, .string (⟨#[]⟩ : ByteArray), .int .i64 0, .slice (some ⟨b14, 0, none⟩) 1 1]) (is := [0, 3]) (xs := [.const (.int .i64 6), .tmp 14]) Tryd.underlying36 zr36 bld36 rfl rfl rfl rfl) ?_)
  refine TK.new (Els.nil k36) ?_
  refine TK.new (Row.nil k36 36) ?_
  refine TK.conv (ch' := El k36 (⟨5, (⟨#[]⟩ : ByteArray), 0, ([] : List S36)⟩ : S36) [.int .i64 5, .string (⟨#[]⟩ : ByteArray), .int .i64 0, .slice none 0 0]) (fun B W F hh => k36_mkM W B F (⟨5, (⟨#[]⟩ : ByteArray), 0, ([] : List S36)⟩ : S36) hh) ?_
  refine TK.sel (Ls := [Els k36 [] [], El k36 (⟨5, (⟨#[]⟩ : ByteArray), 0, ([] : List S36)⟩ : S36) [.int .i64 5, .string (⟨#[]⟩ : ByteArray), .int .i64 0, .slice none 0 0], Blk b14 [.int .i64 5, .string (⟨#[]⟩ : ByteArray), .int .i64 0, .slice none 0 0] 36]) [1, 0, 2] 3 rfl rfl rfl ?_
  refine TK.two (ch := Els k36 [(⟨5, (⟨#[]⟩ : ByteArray), 0, ([] : List S36)⟩ : S36)] [.int .i64 5, .string (⟨#[]⟩ : ByteArray), .int .i64 0, .slice none 0 0]) (Els.snoc k36) ?_
  refine TK.sel (Ls := [Blk b14 [.int .i64 5, .string (⟨#[]⟩ : ByteArray), .int .i64 0, .slice none 0 0] 36, Els k36 [(⟨5, (⟨#[]⟩ : ByteArray), 0, ([] : List S36)⟩ : S36)] [.int .i64 5, .string (⟨#[]⟩ : ByteArray), .int .i64 0, .slice none 0 0]]) [1, 0] 2 rfl rfl rfl ?_
  refine TK.two (ch := Row k36 36 (.slice (some ⟨b14, 0, none⟩) 1 1) ([(⟨5, (⟨#[]⟩ : ByteArray), 0, ([] : List S36)⟩ : S36)] : List S36)) (Row.lit k36 rfl rfl) ?_
  refine TK.share (fun G17 e18 hs19 hb20 => ?_)
  have rd21 : Rd G17 k36 (some ⟨b14, 0, none⟩) ([(⟨5, (⟨#[]⟩ : ByteArray), 0, ([] : List S36)⟩ : S36)] : List S36) := Rd.row hs19
  have le22 : ([(⟨5, (⟨#[]⟩ : ByteArray), 0, ([] : List S36)⟩ : S36)] : List S36).length ≤ 1 := Row.le hs19
  obtain ⟨y23, hy24, h⟩ := bind_no h
  refine TL.cons (TL.callV (Lin := []) (args := [.agg #[.int .i64 6, .string (⟨#[]⟩ : ByteArray), .int .i64 0, .slice (some ⟨b14, 0, none⟩) 1 1]]) rfl rfl rfl hbd25 rfl rfl (types_Of.calls (a0 := (⟨6, (⟨#[]⟩ : ByteArray), 0, ([(⟨5, (⟨#[]⟩ : ByteArray), 0, ([] : List S36)⟩ : S36)] : List S36)⟩ : S36)) rd21 le22 hy24) rfl ?_)
  rintro _ _ _ _ ⟨rfl, A25, c26, rfl, rfl⟩
  refine TL.cons (TO.val rfl rfl rfl (Val.move rfl) ?_)
  refine TL.cons (TO.val rfl rfl rfl (Val.extract rfl rfl) ?_)
  refine TL.cons (TO.val rfl rfl rfl (Val.extract rfl rfl) ?_)
  refine TL.cons (TL.alloc (cs := [.int .i64 0, .int .i64 0, .slice none 0 0]) rfl rfl zr24 rfl (fun b28 => ?_))
  refine TL.cons (TL.store 0 (ds := [.int .i64 y23.1.f0, .int .i64 y23.1.f1, .slice A25 y23.1.f2.length c26]) (cs' := [.int .i64 y23.1.f0, .int .i64 y23.1.f1, .slice A25 y23.1.f2.length c26]) (L' := (Blk b28 [.int .i64 y23.1.f0, .int .i64 y23.1.f1, .slice A25 y23.1.f2.length c26] 24 :: Row k24 24 (.slice A25 y23.1.f2.length c26) y23.1.f2 :: L)) rfl fsz24 rfl rfl rfl rfl rfl (Nat.le_of_ble_eq_true rfl) rfl rfl ?_)
  refine TL.cons (TO.val rfl rfl rfl (Val.assign rfl) ?_)
  refine TL.nil ?_
  refine TQ.then_ ?_
  refine TC.seq ?_
  refine TC.region ?_
  refine TL.cons (TO.val rfl rfl rfl (Val.build (cs := [.int .i64 18, .string (⟨#[]⟩ : ByteArray), .int .i64 0, .slice none 0 0]) (is := [0]) (xs := [.const (.int .i64 18)]) Tryd.underlying36 zr36 bld36 rfl rfl rfl rfl) ?_)
  obtain ⟨y29, hy30, h⟩ := bind_no h
  refine TL.cons (TL.callV (Lin := []) (args := [.agg #[.int .i64 18, .string (⟨#[]⟩ : ByteArray), .int .i64 0, .slice none 0 0]]) rfl rfl rfl hbd25 rfl rfl (types_Of.calls (a0 := (⟨18, (⟨#[]⟩ : ByteArray), 0, ([] : List S36)⟩ : S36)) (Rd.nil _ _) (Nat.le_refl 0) hy30) rfl ?_)
  rintro _ _ _ _ ⟨rfl, A31, c32, rfl, rfl⟩
  refine TL.cons (TO.val rfl rfl rfl (Val.move rfl) ?_)
  refine TL.cons (TO.val rfl rfl rfl (Val.extract rfl rfl) ?_)
  refine TL.cons (TO.val rfl rfl rfl (Val.extract rfl rfl) ?_)
  refine TL.cons (TL.alloc (cs := [.int .i64 0, .int .i64 0, .slice none 0 0]) rfl rfl zr24 rfl (fun b34 => ?_))
  refine TL.cons (TL.store 0 (ds := [.int .i64 y29.1.f0, .int .i64 y29.1.f1, .slice A31 y29.1.f2.length c32]) (cs' := [.int .i64 y29.1.f0, .int .i64 y29.1.f1, .slice A31 y29.1.f2.length c32]) (L' := (Blk b34 [.int .i64 y29.1.f0, .int .i64 y29.1.f1, .slice A31 y29.1.f2.length c32] 24 :: Row k24 24 (.slice A31 y29.1.f2.length c32) y29.1.f2 :: Blk b28 [.int .i64 y23.1.f0, .int .i64 y23.1.f1, .slice A25 y23.1.f2.length c26] 24 :: Row k24 24 (.slice A25 y23.1.f2.length c26) y23.1.f2 :: L)) rfl fsz24 rfl rfl rfl rfl rfl (Nat.le_of_ble_eq_true rfl) rfl rfl ?_)
  refine TL.cons (TO.val rfl rfl rfl (Val.assign rfl) ?_)
  refine TL.nil ?_
  refine TQ.then_ ?_
  refine TC.seq ?_
  refine TC.back hb20 ?_
  refine TC.back hb9 ?_
  refine TC.sel (Ls := [Row k24 24 (.slice A25 y23.1.f2.length c26) y23.1.f2, Row k24 24 (.slice A3 y1.f2.length c4) y1.f2, Row k36 36 (.slice (some ⟨b14, 0, none⟩) 1 1) ([(⟨5, (⟨#[]⟩ : ByteArray), 0, ([] : List S36)⟩ : S36)] : List S36), Blk b34 [.int .i64 y29.1.f0, .int .i64 y29.1.f1, .slice A31 y29.1.f2.length c32] 24, Row k24 24 (.slice A31 y29.1.f2.length c32) y29.1.f2, Blk b28 [.int .i64 y23.1.f0, .int .i64 y23.1.f1, .slice A25 y23.1.f2.length c26] 24]) [5, 0, 1, 2, 3, 4] 6 rfl rfl rfl ?_
  refine TC.share (fun G335 e336 hs337 hb338 => ?_)
  have rd339 : Rd G335 k24 A25 y23.1.f2 := Rd.row hs337
  have le340 : y23.1.f2.length ≤ c26 := Row.le hs337
  refine TC.regionAny [] [2, 3, 4, 5, 6, 7, 8, 9, 10, 11, 12, 13, 14, 15, 16, 17, 18, 19, 20, 21, 22, 23, 24, 25, 26, 27, 28, 29, 30, 31, 32, 33, 34, 35, 36, 37, 38, 39, 40, 41, 42] mixed (by kernel_rfl) ?_
  obtain ⟨y341, hy342, h⟩ := bind_no h
  refine TA.eff 0 rfl (by kernel_rfl) rfl (TL.callV (Lin := []) (args := []) rfl rfl rfl hbd27 rfl rfl (swagelaw11_some.calls hy342) rfl ?_)
  rintro _ _ _ _ ⟨rfl, A343, c344, rfl, rfl⟩
  refine TA.next (fun W hO => hO.selT (Ls := [Row k24 24 (.slice A3 y1.f2.length c4) y1.f2, Row k36 36 (.slice (some ⟨b14, 0, none⟩) 1 1) ([(⟨5, (⟨#[]⟩ : ByteArray), 0, ([] : List S36)⟩ : S36)] : List S36), Blk b34 [.int .i64 y29.1.f0, .int .i64 y29.1.f1, .slice A31 y29.1.f2.length c32] 24, Row k24 24 (.slice A31 y29.1.f2.length c32) y29.1.f2, Blk b28 [.int .i64 y23.1.f0, .int .i64 y23.1.f1, .slice A25 y23.1.f2.length c26] 24]) [1, 2, 3, 4, 5] 6 rfl rfl rfl) ?_
  refine TK.share (fun G346 e347 hs348 hb349 => ?_)
  have rd350 : Rd G346 k24 A343 y341.f2 := Rd.row hs348
  have le351 : y341.f2.length ≤ c344 := Row.le hs348
  obtain ⟨y352, hy353, h⟩ := bind_no h
  refine TA.eff 1 rfl (by kernel_rfl) rfl (TL.callV (Lin := []) (args := [.agg #[.int .i64 y341.f0, .int .i64 y341.f1, .slice A343 y341.f2.length c344]]) rfl rfl rfl hbd15 rfl rfl (types_Right.calls (a0 := y341) rd350 le351 hy353) rfl ?_)
  rintro _ _ _ _ ⟨rfl, rfl, rfl⟩
  refine TA.next (fun W hO => (hb349 _ _ hO).selT (Ls := [Row k24 24 (.slice A3 y1.f2.length c4) y1.f2, Row k36 36 (.slice (some ⟨b14, 0, none⟩) 1 1) ([(⟨5, (⟨#[]⟩ : ByteArray), 0, ([] : List S36)⟩ : S36)] : List S36), Blk b34 [.int .i64 y29.1.f0, .int .i64 y29.1.f1, .slice A31 y29.1.f2.length c32] 24, Row k24 24 (.slice A31 y29.1.f2.length c32) y29.1.f2, Blk b28 [.int .i64 y23.1.f0, .int .i64 y23.1.f1, .slice A25 y23.1.f2.length c26] 24]) [1, 2, 3, 4, 5] 6 rfl rfl rfl) ?_
  refine TA.take 2 rfl (by kernel_rfl) rfl (PQ.then_ PQ.body) rfl (Val.move rfl) (fun W hO => (hb349 _ _ hO).selT (Ls := [Row k24 24 (.slice A3 y1.f2.length c4) y1.f2, Row k36 36 (.slice (some ⟨b14, 0, none⟩) 1 1) ([(⟨5, (⟨#[]⟩ : ByteArray), 0, ([] : List S36)⟩ : S36)] : List S36), Blk b34 [.int .i64 y29.1.f0, .int .i64 y29.1.f1, .slice A31 y29.1.f2.length c32] 24, Row k24 24 (.slice A31 y29.1.f2.length c32) y29.1.f2, Blk b28 [.int .i64 y23.1.f0, .int .i64 y23.1.f1, .slice A25 y23.1.f2.length c26] 24]) [1, 2, 3, 4, 5] 6 rfl rfl rfl) ?_
  refine TK.split (p := y352 = true) h (fun hg354 h => ?_) (fun hg354 h => ?_)
  · have hk355 : y352 = true := hg354
    obtain ⟨y356, hy357, h⟩ := bind_no h
    refine TA.eff 3 rfl (by kernel_rfl) rfl (TL.callV (Lin := []) (args := []) (Wt.yes rfl rfl rfl hk355) rfl rfl hbd27 rfl rfl (swagelaw11_some.calls hy357) rfl ?_)
    rintro _ _ _ _ ⟨rfl, A358, c359, rfl, rfl⟩
    refine TA.next (fun W hO => (hb349 _ _ hO).selT (Ls := [Row k24 24 (.slice A3 y1.f2.length c4) y1.f2, Row k36 36 (.slice (some ⟨b14, 0, none⟩) 1 1) ([(⟨5, (⟨#[]⟩ : ByteArray), 0, ([] : List S36)⟩ : S36)] : List S36), Blk b34 [.int .i64 y29.1.f0, .int .i64 y29.1.f1, .slice A31 y29.1.f2.length c32] 24, Row k24 24 (.slice A31 y29.1.f2.length c32) y29.1.f2, Blk b28 [.int .i64 y23.1.f0, .int .i64 y23.1.f1, .slice A25 y23.1.f2.length c26] 24]) [2, 3, 4, 5, 6] 7 rfl rfl rfl) ?_
    refine TK.share (fun G361 e362 hs363 hb364 => ?_)
    have rd365 : Rd G361 k24 A358 y356.f2 := Rd.row hs363
    have le366 : y356.f2.length ≤ c359 := Row.le hs363
    obtain ⟨y367, hy368, h⟩ := bind_no h
    refine TA.eff 4 rfl (by kernel_rfl) rfl (TL.callV (Lin := []) (args := [.agg #[.int .i64 y356.f0, .int .i64 y356.f1, .slice A358 y356.f2.length c359]]) (Wt.yes rfl rfl rfl hk355) rfl rfl hbd17 rfl rfl (types_Size.calls (a0 := y356) rd365 le366 hy368) rfl ?_)
    rintro _ _ _ _ ⟨rfl, rfl, rfl⟩
    refine TA.next (fun W hO => (hb349 _ _ (hb364 _ _ hO)).selT (Ls := [Row k24 24 (.slice A3 y1.f2.length c4) y1.f2, Row k36 36 (.slice (some ⟨b14, 0, none⟩) 1 1) ([(⟨5, (⟨#[]⟩ : ByteArray), 0, ([] : List S36)⟩ : S36)] : List S36), Blk b34 [.int .i64 y29.1.f0, .int .i64 y29.1.f1, .slice A31 y29.1.f2.length c32] 24, Row k24 24 (.slice A31 y29.1.f2.length c32) y29.1.f2, Blk b28 [.int .i64 y23.1.f0, .int .i64 y23.1.f1, .slice A25 y23.1.f2.length c26] 24]) [2, 3, 4, 5, 6] 7 rfl rfl rfl) ?_
    refine TA.take 5 rfl (by kernel_rfl) rfl (PQ.then_ PQ.body) (Wt.yes rfl rfl rfl hk355) (Val.cmp rfl rfl run_eql) (fun W hO => (hb349 _ _ (hb364 _ _ hO)).selT (Ls := [Row k24 24 (.slice A3 y1.f2.length c4) y1.f2, Row k36 36 (.slice (some ⟨b14, 0, none⟩) 1 1) ([(⟨5, (⟨#[]⟩ : ByteArray), 0, ([] : List S36)⟩ : S36)] : List S36), Blk b34 [.int .i64 y29.1.f0, .int .i64 y29.1.f1, .slice A31 y29.1.f2.length c32] 24, Row k24 24 (.slice A31 y29.1.f2.length c32) y29.1.f2, Blk b28 [.int .i64 y23.1.f0, .int .i64 y23.1.f1, .slice A25 y23.1.f2.length c26] 24]) [2, 3, 4, 5, 6] 7 rfl rfl rfl) ?_
    refine TA.take 6 rfl (by kernel_rfl) rfl (PQ.then_ PQ.body) rfl (Val.pickY rfl hk355 rfl) (fun W hO => (hb349 _ _ (hb364 _ _ hO)).selT (Ls := [Row k24 24 (.slice A3 y1.f2.length c4) y1.f2, Row k36 36 (.slice (some ⟨b14, 0, none⟩) 1 1) ([(⟨5, (⟨#[]⟩ : ByteArray), 0, ([] : List S36)⟩ : S36)] : List S36), Blk b34 [.int .i64 y29.1.f0, .int .i64 y29.1.f1, .slice A31 y29.1.f2.length c32] 24, Row k24 24 (.slice A31 y29.1.f2.length c32) y29.1.f2, Blk b28 [.int .i64 y23.1.f0, .int .i64 y23.1.f1, .slice A25 y23.1.f2.length c26] 24]) [2, 3, 4, 5, 6] 7 rfl rfl rfl) ?_
    refine TA.take 7 rfl (by kernel_rfl) rfl (PQ.then_ PQ.body) rfl (Val.move rfl) (fun W hO => (hb349 _ _ (hb364 _ _ hO)).selT (Ls := [Row k24 24 (.slice A3 y1.f2.length c4) y1.f2, Row k36 36 (.slice (some ⟨b14, 0, none⟩) 1 1) ([(⟨5, (⟨#[]⟩ : ByteArray), 0, ([] : List S36)⟩ : S36)] : List S36), Blk b34 [.int .i64 y29.1.f0, .int .i64 y29.1.f1, .slice A31 y29.1.f2.length c32] 24, Row k24 24 (.slice A31 y29.1.f2.length c32) y29.1.f2, Blk b28 [.int .i64 y23.1.f0, .int .i64 y23.1.f1, .slice A25 y23.1.f2.length c26] 24]) [2, 3, 4, 5, 6] 7 rfl rfl rfl) ?_
    refine TK.split (p := y367 = 5) h (fun hg369 h => ?_) (fun hg369 h => ?_)
    · have hk370 : decide (y367 = 5) = true := decide_eq_true hg369
      refine TA.take 8 rfl (by kernel_rfl) rfl (PQ.then_ PQ.body) (Wt.yes rfl rfl rfl hk370) (Val.move rfl) (fun W hO => (hb349 _ _ (hb364 _ _ hO)).selT (Ls := [Row k24 24 (.slice A3 y1.f2.length c4) y1.f2, Row k36 36 (.slice (some ⟨b14, 0, none⟩) 1 1) ([(⟨5, (⟨#[]⟩ : ByteArray), 0, ([] : List S36)⟩ : S36)] : List S36), Blk b34 [.int .i64 y29.1.f0, .int .i64 y29.1.f1, .slice A31 y29.1.f2.length c32] 24, Row k24 24 (.slice A31 y29.1.f2.length c32) y29.1.f2, Blk b28 [.int .i64 y23.1.f0, .int .i64 y23.1.f1, .slice A25 y23.1.f2.length c26] 24]) [2, 3, 4, 5, 6] 7 rfl rfl rfl) ?_
      refine TA.take 9 rfl (by kernel_rfl) rfl (PQ.then_ PQ.body) (Wt.yes rfl rfl rfl hk370) (Val.cmp rfl rfl run_eql) (fun W hO => (hb349 _ _ (hb364 _ _ hO)).selT (Ls := [Row k24 24 (.slice A3 y1.f2.length c4) y1.f2, Row k36 36 (.slice (some ⟨b14, 0, none⟩) 1 1) ([(⟨5, (⟨#[]⟩ : ByteArray), 0, ([] : List S36)⟩ : S36)] : List S36), Blk b34 [.int .i64 y29.1.f0, .int .i64 y29.1.f1, .slice A31 y29.1.f2.length c32] 24, Row k24 24 (.slice A31 y29.1.f2.length c32) y29.1.f2, Blk b28 [.int .i64 y23.1.f0, .int .i64 y23.1.f1, .slice A25 y23.1.f2.length c26] 24]) [2, 3, 4, 5, 6] 7 rfl rfl rfl) ?_
      refine TA.take 10 rfl (by kernel_rfl) rfl (PQ.then_ PQ.body) rfl (Val.pickY rfl hk370 rfl) (fun W hO => (hb349 _ _ (hb364 _ _ hO)).selT (Ls := [Row k24 24 (.slice A3 y1.f2.length c4) y1.f2, Row k36 36 (.slice (some ⟨b14, 0, none⟩) 1 1) ([(⟨5, (⟨#[]⟩ : ByteArray), 0, ([] : List S36)⟩ : S36)] : List S36), Blk b34 [.int .i64 y29.1.f0, .int .i64 y29.1.f1, .slice A31 y29.1.f2.length c32] 24, Row k24 24 (.slice A31 y29.1.f2.length c32) y29.1.f2, Blk b28 [.int .i64 y23.1.f0, .int .i64 y23.1.f1, .slice A25 y23.1.f2.length c26] 24]) [2, 3, 4, 5, 6] 7 rfl rfl rfl) ?_
      refine TA.take 11 rfl (by kernel_rfl) rfl (PQ.then_ PQ.body) rfl (Val.move rfl) (fun W hO => (hb349 _ _ (hb364 _ _ hO)).selT (Ls := [Row k24 24 (.slice A3 y1.f2.length c4) y1.f2, Row k36 36 (.slice (some ⟨b14, 0, none⟩) 1 1) ([(⟨5, (⟨#[]⟩ : ByteArray), 0, ([] : List S36)⟩ : S36)] : List S36), Blk b34 [.int .i64 y29.1.f0, .int .i64 y29.1.f1, .slice A31 y29.1.f2.length c32] 24, Row k24 24 (.slice A31 y29.1.f2.length c32) y29.1.f2, Blk b28 [.int .i64 y23.1.f0, .int .i64 y23.1.f1, .slice A25 y23.1.f2.length c26] 24]) [2, 3, 4, 5, 6] 7 rfl rfl rfl) ?_
      refine TK.split (p := y12.1 = 4) h (fun hg371 h => ?_) (fun hg371 h => ?_)
      · have hk372 : decide (y12.1 = 4) = true := decide_eq_true hg371
        refine TA.take 12 rfl (by kernel_rfl) rfl (PQ.then_ PQ.body) (Wt.yes rfl rfl rfl hk372) (Val.move rfl) (fun W hO => (hb349 _ _ (hb364 _ _ hO)).selT (Ls := [Row k24 24 (.slice A3 y1.f2.length c4) y1.f2, Row k36 36 (.slice (some ⟨b14, 0, none⟩) 1 1) ([(⟨5, (⟨#[]⟩ : ByteArray), 0, ([] : List S36)⟩ : S36)] : List S36), Blk b34 [.int .i64 y29.1.f0, .int .i64 y29.1.f1, .slice A31 y29.1.f2.length c32] 24, Row k24 24 (.slice A31 y29.1.f2.length c32) y29.1.f2, Blk b28 [.int .i64 y23.1.f0, .int .i64 y23.1.f1, .slice A25 y23.1.f2.length c26] 24]) [2, 3, 4, 5, 6] 7 rfl rfl rfl) ?_
        refine TA.take 13 rfl (by kernel_rfl) rfl (PQ.then_ PQ.body) rfl (Val.pickY rfl hk372 rfl) (fun W hO => (hb349 _ _ (hb364 _ _ hO)).selT (Ls := [Row k24 24 (.slice A3 y1.f2.length c4) y1.f2, Row k36 36 (.slice (some ⟨b14, 0, none⟩) 1 1) ([(⟨5, (⟨#[]⟩ : ByteArray), 0, ([] : List S36)⟩ : S36)] : List S36), Blk b34 [.int .i64 y29.1.f0, .int .i64 y29.1.f1, .slice A31 y29.1.f2.length c32] 24, Row k24 24 (.slice A31 y29.1.f2.length c32) y29.1.f2, Blk b28 [.int .i64 y23.1.f0, .int .i64 y23.1.f1, .slice A25 y23.1.f2.length c26] 24]) [2, 3, 4, 5, 6] 7 rfl rfl rfl) ?_
        refine TA.take 14 rfl (by kernel_rfl) rfl (PQ.then_ PQ.body) rfl (Val.move rfl) (fun W hO => (hb349 _ _ (hb364 _ _ hO)).selT (Ls := [Row k24 24 (.slice A3 y1.f2.length c4) y1.f2, Row k36 36 (.slice (some ⟨b14, 0, none⟩) 1 1) ([(⟨5, (⟨#[]⟩ : ByteArray), 0, ([] : List S36)⟩ : S36)] : List S36), Blk b34 [.int .i64 y29.1.f0, .int .i64 y29.1.f1, .slice A31 y29.1.f2.length c32] 24, Row k24 24 (.slice A31 y29.1.f2.length c32) y29.1.f2, Blk b28 [.int .i64 y23.1.f0, .int .i64 y23.1.f1, .slice A25 y23.1.f2.length c26] 24]) [2, 3, 4, 5, 6] 7 rfl rfl rfl) ?_
        refine TK.split (p := y12.2 = true) h (fun hg373 h => ?_) (fun hg373 h => ?_)
        · have hk374 : y12.2 = true := hg373
          obtain ⟨y375, hy376, h⟩ := bind_no h
          refine TA.eff 15 rfl (by kernel_rfl) rfl (TL.callV (Lin := []) (args := []) (Wt.yes rfl rfl rfl hk374) rfl rfl hbd27 rfl rfl (swagelaw11_some.calls hy376) rfl ?_)
          rintro _ _ _ _ ⟨rfl, A377, c378, rfl, rfl⟩
          refine TA.next (fun W hO => (hb349 _ _ (hb364 _ _ hO)).selT (Ls := [Row k24 24 (.slice A3 y1.f2.length c4) y1.f2, Row k36 36 (.slice (some ⟨b14, 0, none⟩) 1 1) ([(⟨5, (⟨#[]⟩ : ByteArray), 0, ([] : List S36)⟩ : S36)] : List S36), Blk b34 [.int .i64 y29.1.f0, .int .i64 y29.1.f1, .slice A31 y29.1.f2.length c32] 24, Row k24 24 (.slice A31 y29.1.f2.length c32) y29.1.f2, Blk b28 [.int .i64 y23.1.f0, .int .i64 y23.1.f1, .slice A25 y23.1.f2.length c26] 24]) [3, 4, 5, 6, 7] 8 rfl rfl rfl) ?_
          refine TK.share (fun G380 e381 hs382 hb383 => ?_)
          have rd384 : Rd G380 k24 A377 y375.f2 := Rd.row hs382
          have le385 : y375.f2.length ≤ c378 := Row.le hs382
          obtain ⟨y386, hy387, h⟩ := bind_no h
          refine TA.eff 16 rfl (by kernel_rfl) rfl (TL.callV (Lin := []) (args := [.agg #[.int .i64 y375.f0, .int .i64 y375.f1, .slice A377 y375.f2.length c378]]) (Wt.yes rfl rfl rfl hk374) rfl rfl hbd22 rfl rfl (types_Text.calls (a0 := y375) (ht.up (Gd.le.trans (Gd.le.trans (Gd.le.trans e336 e347) e362) e381)) rd384 le385 hy387) rfl ?_)
          rintro _ _ _ _ ⟨rfl, rfl, rfl⟩
          refine TA.next (fun W hO => (hb349 _ _ (hb364 _ _ (hb383 _ _ hO))).selT (Ls := [Row k24 24 (.slice A3 y1.f2.length c4) y1.f2, Row k36 36 (.slice (some ⟨b14, 0, none⟩) 1 1) ([(⟨5, (⟨#[]⟩ : ByteArray), 0, ([] : List S36)⟩ : S36)] : List S36), Blk b34 [.int .i64 y29.1.f0, .int .i64 y29.1.f1, .slice A31 y29.1.f2.length c32] 24, Row k24 24 (.slice A31 y29.1.f2.length c32) y29.1.f2, Blk b28 [.int .i64 y23.1.f0, .int .i64 y23.1.f1, .slice A25 y23.1.f2.length c26] 24]) [3, 4, 5, 6, 7] 8 rfl rfl rfl) ?_
          refine TA.take 17 rfl (by kernel_rfl) rfl (PQ.then_ PQ.body) (Wt.yes rfl rfl rfl hk374) (Val.eqT rfl rfl) (fun W hO => (hb349 _ _ (hb364 _ _ (hb383 _ _ hO))).selT (Ls := [Row k24 24 (.slice A3 y1.f2.length c4) y1.f2, Row k36 36 (.slice (some ⟨b14, 0, none⟩) 1 1) ([(⟨5, (⟨#[]⟩ : ByteArray), 0, ([] : List S36)⟩ : S36)] : List S36), Blk b34 [.int .i64 y29.1.f0, .int .i64 y29.1.f1, .slice A31 y29.1.f2.length c32] 24, Row k24 24 (.slice A31 y29.1.f2.length c32) y29.1.f2, Blk b28 [.int .i64 y23.1.f0, .int .i64 y23.1.f1, .slice A25 y23.1.f2.length c26] 24]) [3, 4, 5, 6, 7] 8 rfl rfl rfl) ?_
          refine TA.take 18 rfl (by kernel_rfl) rfl (PQ.then_ PQ.body) rfl (Val.pickY rfl hk374 rfl) (fun W hO => (hb349 _ _ (hb364 _ _ (hb383 _ _ hO))).selT (Ls := [Row k24 24 (.slice A3 y1.f2.length c4) y1.f2, Row k36 36 (.slice (some ⟨b14, 0, none⟩) 1 1) ([(⟨5, (⟨#[]⟩ : ByteArray), 0, ([] : List S36)⟩ : S36)] : List S36), Blk b34 [.int .i64 y29.1.f0, .int .i64 y29.1.f1, .slice A31 y29.1.f2.length c32] 24, Row k24 24 (.slice A31 y29.1.f2.length c32) y29.1.f2, Blk b28 [.int .i64 y23.1.f0, .int .i64 y23.1.f1, .slice A25 y23.1.f2.length c26] 24]) [3, 4, 5, 6, 7] 8 rfl rfl rfl) ?_
          refine TA.take 19 rfl (by kernel_rfl) rfl (PQ.then_ PQ.body) rfl (Val.move rfl) (fun W hO => (hb349 _ _ (hb364 _ _ (hb383 _ _ hO))).selT (Ls := [Row k24 24 (.slice A3 y1.f2.length c4) y1.f2, Row k36 36 (.slice (some ⟨b14, 0, none⟩) 1 1) ([(⟨5, (⟨#[]⟩ : ByteArray), 0, ([] : List S36)⟩ : S36)] : List S36), Blk b34 [.int .i64 y29.1.f0, .int .i64 y29.1.f1, .slice A31 y29.1.f2.length c32] 24, Row k24 24 (.slice A31 y29.1.f2.length c32) y29.1.f2, Blk b28 [.int .i64 y23.1.f0, .int .i64 y23.1.f1, .slice A25 y23.1.f2.length c26] 24]) [3, 4, 5, 6, 7] 8 rfl rfl rfl) ?_
          refine TK.split (p := (y386.data.toList == (⟨#[40, 105, 110, 116, 44, 91, 51, 93, 42, 105, 110, 116, 44, 105, 110, 116, 41]⟩ : ByteArray).data.toList) = true) h (fun hg388 h => ?_) (fun hg388 h => ?_)
          · have hk389 : (y386.data.toList == (⟨#[40, 105, 110, 116, 44, 91, 51, 93, 42, 105, 110, 116, 44, 105, 110, 116, 41]⟩ : ByteArray).data.toList) = true := hg388
            refine TA.take 20 rfl (by kernel_rfl) rfl (PQ.then_ PQ.body) (Wt.yes rfl rfl rfl hk389) (Val.move rfl) (fun W hO => (hb349 _ _ (hb364 _ _ (hb383 _ _ hO))).selT (Ls := [Row k24 24 (.slice A3 y1.f2.length c4) y1.f2, Row k36 36 (.slice (some ⟨b14, 0, none⟩) 1 1) ([(⟨5, (⟨#[]⟩ : ByteArray), 0, ([] : List S36)⟩ : S36)] : List S36), Blk b34 [.int .i64 y29.1.f0, .int .i64 y29.1.f1, .slice A31 y29.1.f2.length c32] 24, Row k24 24 (.slice A31 y29.1.f2.length c32) y29.1.f2, Blk b28 [.int .i64 y23.1.f0, .int .i64 y23.1.f1, .slice A25 y23.1.f2.length c26] 24]) [3, 4, 5, 6, 7] 8 rfl rfl rfl) ?_
            refine TA.take 21 rfl (by kernel_rfl) rfl (PQ.then_ PQ.body) (Wt.yes rfl rfl rfl hk389) (Val.cmp rfl rfl run_eql) (fun W hO => (hb349 _ _ (hb364 _ _ (hb383 _ _ hO))).selT (Ls := [Row k24 24 (.slice A3 y1.f2.length c4) y1.f2, Row k36 36 (.slice (some ⟨b14, 0, none⟩) 1 1) ([(⟨5, (⟨#[]⟩ : ByteArray), 0, ([] : List S36)⟩ : S36)] : List S36), Blk b34 [.int .i64 y29.1.f0, .int .i64 y29.1.f1, .slice A31 y29.1.f2.length c32] 24, Row k24 24 (.slice A31 y29.1.f2.length c32) y29.1.f2, Blk b28 [.int .i64 y23.1.f0, .int .i64 y23.1.f1, .slice A25 y23.1.f2.length c26] 24]) [3, 4, 5, 6, 7] 8 rfl rfl rfl) ?_
            refine TA.take 22 rfl (by kernel_rfl) rfl (PQ.then_ PQ.body) rfl (Val.pickY rfl hk389 rfl) (fun W hO => (hb349 _ _ (hb364 _ _ (hb383 _ _ hO))).selT (Ls := [Row k24 24 (.slice A3 y1.f2.length c4) y1.f2, Row k36 36 (.slice (some ⟨b14, 0, none⟩) 1 1) ([(⟨5, (⟨#[]⟩ : ByteArray), 0, ([] : List S36)⟩ : S36)] : List S36), Blk b34 [.int .i64 y29.1.f0, .int .i64 y29.1.f1, .slice A31 y29.1.f2.length c32] 24, Row k24 24 (.slice A31 y29.1.f2.length c32) y29.1.f2, Blk b28 [.int .i64 y23.1.f0, .int .i64 y23.1.f1, .slice A25 y23.1.f2.length c26] 24]) [3, 4, 5, 6, 7] 8 rfl rfl rfl) ?_
            refine TA.take 23 rfl (by kernel_rfl) rfl (PQ.then_ PQ.body) rfl (Val.move rfl) (fun W hO => (hb349 _ _ (hb364 _ _ (hb383 _ _ hO))).selT (Ls := [Row k24 24 (.slice A3 y1.f2.length c4) y1.f2, Row k36 36 (.slice (some ⟨b14, 0, none⟩) 1 1) ([(⟨5, (⟨#[]⟩ : ByteArray), 0, ([] : List S36)⟩ : S36)] : List S36), Blk b34 [.int .i64 y29.1.f0, .int .i64 y29.1.f1, .slice A31 y29.1.f2.length c32] 24, Row k24 24 (.slice A31 y29.1.f2.length c32) y29.1.f2, Blk b28 [.int .i64 y23.1.f0, .int .i64 y23.1.f1, .slice A25 y23.1.f2.length c26] 24]) [3, 4, 5, 6, 7] 8 rfl rfl rfl) ?_
            refine TK.split (p := y23.2 = 0) h (fun hg390 h => ?_) (fun hg390 h => ?_)
            · have hk391 : decide (y23.2 = 0) = true := decide_eq_true hg390
              refine TA.take 24 rfl (by kernel_rfl) rfl (PQ.then_ PQ.body) (Wt.yes rfl rfl rfl hk391) (Val.loadsB 4 (cs := [.int .i64 y23.1.f0, .int .i64 y23.1.f1, .slice A25 y23.1.f2.length c26]) agg24 fsz24 rfl rfl rfl rfl) (fun W hO => (hb349 _ _ (hb364 _ _ (hb383 _ _ hO))).selT (Ls := [Row k24 24 (.slice A3 y1.f2.length c4) y1.f2, Row k36 36 (.slice (some ⟨b14, 0, none⟩) 1 1) ([(⟨5, (⟨#[]⟩ : ByteArray), 0, ([] : List S36)⟩ : S36)] : List S36), Blk b34 [.int .i64 y29.1.f0, .int .i64 y29.1.f1, .slice A31 y29.1.f2.length c32] 24, Row k24 24 (.slice A31 y29.1.f2.length c32) y29.1.f2, Blk b28 [.int .i64 y23.1.f0, .int .i64 y23.1.f1, .slice A25 y23.1.f2.length c26] 24]) [3, 4, 5, 6, 7] 8 rfl rfl rfl) ?_
              refine TA.take 25 rfl (by kernel_rfl) rfl (PQ.then_ PQ.body) (Wt.yes rfl rfl rfl hk391) (Val.build (cs := [.int .i64 1, .int .i64 0, .slice none 0 0]) (is := [0]) (xs := [.const (.int .i64 1)]) Tryd.underlying24 zr24 bld24 rfl rfl rfl rfl) (fun W hO => (hb349 _ _ (hb364 _ _ (hb383 _ _ hO))).selT (Ls := [Row k24 24 (.slice A3 y1.f2.length c4) y1.f2, Row k36 36 (.slice (some ⟨b14, 0, none⟩) 1 1) ([(⟨5, (⟨#[]⟩ : ByteArray), 0, ([] : List S36)⟩ : S36)] : List S36), Blk b34 [.int .i64 y29.1.f0, .int .i64 y29.1.f1, .slice A31 y29.1.f2.length c32] 24, Row k24 24 (.slice A31 y29.1.f2.length c32) y29.1.f2, Blk b28 [.int .i64 y23.1.f0, .int .i64 y23.1.f1, .slice A25 y23.1.f2.length c26] 24]) [3, 4, 5, 6, 7] 8 rfl rfl rfl) ?_
              obtain ⟨y392, hy393, h⟩ := bind_no h
              refine TA.eff 26 rfl (by kernel_rfl) rfl (TL.callV (Lin := []) (args := [.agg #[.int .i64 1, .int .i64 0, .slice none 0 0]]) (Wt.yes rfl rfl rfl hk391) rfl rfl hbd11 rfl rfl (types_Pointer.calls (a0 := (⟨1, 0, ([] : List S24)⟩ : S24)) (Rd.nil _ _) (Nat.le_refl 0) hy393) rfl ?_)
              rintro _ _ _ _ ⟨rfl, A394, c395, rfl, rfl⟩
              refine TA.next (fun W hO => (hb349 _ _ (hb364 _ _ (hb383 _ _ hO))).selT (Ls := [Row k24 24 (.slice A3 y1.f2.length c4) y1.f2, Row k36 36 (.slice (some ⟨b14, 0, none⟩) 1 1) ([(⟨5, (⟨#[]⟩ : ByteArray), 0, ([] : List S36)⟩ : S36)] : List S36), Blk b34 [.int .i64 y29.1.f0, .int .i64 y29.1.f1, .slice A31 y29.1.f2.length c32] 24, Row k24 24 (.slice A31 y29.1.f2.length c32) y29.1.f2, Blk b28 [.int .i64 y23.1.f0, .int .i64 y23.1.f1, .slice A25 y23.1.f2.length c26] 24]) [4, 5, 6, 7, 8] 9 rfl rfl rfl) ?_
              refine TK.share (fun G397 e398 hs399 hb400 => ?_)
              have rd401 : Rd G397 k24 A394 y392.f2 := Rd.row hs399
              have le402 : y392.f2.length ≤ c395 := Row.le hs399
              obtain ⟨y403, hy404, h⟩ := bind_no h
              refine TA.eff 27 rfl (by kernel_rfl) rfl (TL.callV (Lin := []) (args := [.agg #[.int .i64 y23.1.f0, .int .i64 y23.1.f1, .slice A25 y23.1.f2.length c26], .agg #[.int .i64 y392.f0, .int .i64 y392.f1, .slice A394 y392.f2.length c395]]) (Wt.yes rfl rfl rfl hk391) rfl rfl hbd19 rfl rfl (types_Same.calls (a0 := y23.1) (a1 := y392) (rd339.up (Gd.le.trans (Gd.le.trans (Gd.le.trans e347 e362) e381) e398)) le340 rd401 le402 hy404) rfl ?_)
              rintro _ _ _ _ ⟨rfl, rfl, rfl⟩
              refine TA.next (fun W hO => (hb349 _ _ (hb364 _ _ (hb383 _ _ (hb400 _ _ hO)))).selT (Ls := [Row k24 24 (.slice A3 y1.f2.length c4) y1.f2, Row k36 36 (.slice (some ⟨b14, 0, none⟩) 1 1) ([(⟨5, (⟨#[]⟩ : ByteArray), 0, ([] : List S36)⟩ : S36)] : List S36), Blk b34 [.int .i64 y29.1.f0, .int .i64 y29.1.f1, .slice A31 y29.1.f2.length c32] 24, Row k24 24 (.slice A31 y29.1.f2.length c32) y29.1.f2, Blk b28 [.int .i64 y23.1.f0, .int .i64 y23.1.f1, .slice A25 y23.1.f2.length c26] 24]) [4, 5, 6, 7, 8] 9 rfl rfl rfl) ?_
              refine TA.take 28 rfl (by kernel_rfl) rfl (PQ.then_ PQ.body) rfl (Val.pickY rfl hk391 rfl) (fun W hO => (hb349 _ _ (hb364 _ _ (hb383 _ _ (hb400 _ _ hO)))).selT (Ls := [Row k24 24 (.slice A3 y1.f2.length c4) y1.f2, Row k36 36 (.slice (some ⟨b14, 0, none⟩) 1 1) ([(⟨5, (⟨#[]⟩ : ByteArray), 0, ([] : List S36)⟩ : S36)] : List S36), Blk b34 [.int .i64 y29.1.f0, .int .i64 y29.1.f1, .slice A31 y29.1.f2.length c32] 24, Row k24 24 (.slice A31 y29.1.f2.length c32) y29.1.f2, Blk b28 [.int .i64 y23.1.f0, .int .i64 y23.1.f1, .slice A25 y23.1.f2.length c26] 24]) [4, 5, 6, 7, 8] 9 rfl rfl rfl) ?_
              refine TA.take 29 rfl (by kernel_rfl) rfl (PQ.then_ PQ.body) rfl (Val.move rfl) (fun W hO => (hb349 _ _ (hb364 _ _ (hb383 _ _ (hb400 _ _ hO)))).selT (Ls := [Row k24 24 (.slice A3 y1.f2.length c4) y1.f2, Row k36 36 (.slice (some ⟨b14, 0, none⟩) 1 1) ([(⟨5, (⟨#[]⟩ : ByteArray), 0, ([] : List S36)⟩ : S36)] : List S36), Blk b34 [.int .i64 y29.1.f0, .int .i64 y29.1.f1, .slice A31 y29.1.f2.length c32] 24, Row k24 24 (.slice A31 y29.1.f2.length c32) y29.1.f2, Blk b28 [.int .i64 y23.1.f0, .int .i64 y23.1.f1, .slice A25 y23.1.f2.length c26] 24]) [4, 5, 6, 7, 8] 9 rfl rfl rfl) ?_
              refine TK.split (p := y403 = true) h (fun hg405 h => ?_) (fun hg405 h => ?_)
              · have hk406 : y403 = true := hg405
                refine TA.take 30 rfl (by kernel_rfl) rfl (PQ.then_ PQ.body) (Wt.yes rfl rfl rfl hk406) (Val.move rfl) (fun W hO => (hb349 _ _ (hb364 _ _ (hb383 _ _ (hb400 _ _ hO)))).selT (Ls := [Row k24 24 (.slice A3 y1.f2.length c4) y1.f2, Row k36 36 (.slice (some ⟨b14, 0, none⟩) 1 1) ([(⟨5, (⟨#[]⟩ : ByteArray), 0, ([] : List S36)⟩ : S36)] : List S36), Blk b34 [.int .i64 y29.1.f0, .int .i64 y29.1.f1, .slice A31 y29.1.f2.length c32] 24, Row k24 24 (.slice A31 y29.1.f2.length c32) y29.1.f2, Blk b28 [.int .i64 y23.1.f0, .int .i64 y23.1.f1, .slice A25 y23.1.f2.length c26] 24]) [4, 5, 6, 7, 8] 9 rfl rfl rfl) ?_
                refine TA.take 31 rfl (by kernel_rfl) rfl (PQ.then_ PQ.body) (Wt.yes rfl rfl rfl hk406) (Val.cmp rfl rfl run_eql) (fun W hO => (hb349 _ _ (hb364 _ _ (hb383 _ _ (hb400 _ _ hO)))).selT (Ls := [Row k24 24 (.slice A3 y1.f2.length c4) y1.f2, Row k36 36 (.slice (some ⟨b14, 0, none⟩) 1 1) ([(⟨5, (⟨#[]⟩ : ByteArray), 0, ([] : List S36)⟩ : S36)] : List S36), Blk b34 [.int .i64 y29.1.f0, .int .i64 y29.1.f1, .slice A31 y29.1.f2.length c32] 24, Row k24 24 (.slice A31 y29.1.f2.length c32) y29.1.f2, Blk b28 [.int .i64 y23.1.f0, .int .i64 y23.1.f1, .slice A25 y23.1.f2.length c26] 24]) [4, 5, 6, 7, 8] 9 rfl rfl rfl) ?_
                refine TA.take 32 rfl (by kernel_rfl) rfl (PQ.then_ PQ.body) rfl (Val.pickY rfl hk406 rfl) (fun W hO => (hb349 _ _ (hb364 _ _ (hb383 _ _ (hb400 _ _ hO)))).selT (Ls := [Row k24 24 (.slice A3 y1.f2.length c4) y1.f2, Row k36 36 (.slice (some ⟨b14, 0, none⟩) 1 1) ([(⟨5, (⟨#[]⟩ : ByteArray), 0, ([] : List S36)⟩ : S36)] : List S36), Blk b34 [.int .i64 y29.1.f0, .int .i64 y29.1.f1, .slice A31 y29.1.f2.length c32] 24, Row k24 24 (.slice A31 y29.1.f2.length c32) y29.1.f2, Blk b28 [.int .i64 y23.1.f0, .int .i64 y23.1.f1, .slice A25 y23.1.f2.length c26] 24]) [4, 5, 6, 7, 8] 9 rfl rfl rfl) ?_
                refine TA.take 33 rfl (by kernel_rfl) rfl (PQ.then_ PQ.body) rfl (Val.move rfl) (fun W hO => (hb349 _ _ (hb364 _ _ (hb383 _ _ (hb400 _ _ hO)))).selT (Ls := [Row k24 24 (.slice A3 y1.f2.length c4) y1.f2, Row k36 36 (.slice (some ⟨b14, 0, none⟩) 1 1) ([(⟨5, (⟨#[]⟩ : ByteArray), 0, ([] : List S36)⟩ : S36)] : List S36), Blk b34 [.int .i64 y29.1.f0, .int .i64 y29.1.f1, .slice A31 y29.1.f2.length c32] 24, Row k24 24 (.slice A31 y29.1.f2.length c32) y29.1.f2, Blk b28 [.int .i64 y23.1.f0, .int .i64 y23.1.f1, .slice A25 y23.1.f2.length c26] 24]) [4, 5, 6, 7, 8] 9 rfl rfl rfl) ?_
                refine TK.split (p := y29.2 = 1) h (fun hg407 h => ?_) (fun hg407 h => ?_)
                · have hk408 : decide (y29.2 = 1) = true := decide_eq_true hg407
                  refine TA.take 34 rfl (by kernel_rfl) rfl (PQ.then_ PQ.body) (Wt.yes rfl rfl rfl hk408) (Val.loadsB 4 (cs := [.int .i64 y23.1.f0, .int .i64 y23.1.f1, .slice A25 y23.1.f2.length c26]) agg24 fsz24 rfl rfl rfl rfl) (fun W hO => (hb349 _ _ (hb364 _ _ (hb383 _ _ (hb400 _ _ hO)))).selT (Ls := [Row k24 24 (.slice A3 y1.f2.length c4) y1.f2, Row k36 36 (.slice (some ⟨b14, 0, none⟩) 1 1) ([(⟨5, (⟨#[]⟩ : ByteArray), 0, ([] : List S36)⟩ : S36)] : List S36), Blk b34 [.int .i64 y29.1.f0, .int .i64 y29.1.f1, .slice A31 y29.1.f2.length c32] 24, Row k24 24 (.slice A31 y29.1.f2.length c32) y29.1.f2, Blk b28 [.int .i64 y23.1.f0, .int .i64 y23.1.f1, .slice A25 y23.1.f2.length c26] 24]) [4, 5, 6, 7, 8] 9 rfl rfl rfl) ?_
                  obtain ⟨y409, hy410, h⟩ := bind_no h
                  refine TA.eff 35 rfl (by kernel_rfl) rfl (TL.callV (Lin := []) (args := [.agg #[.int .i64 y23.1.f0, .int .i64 y23.1.f1, .slice A25 y23.1.f2.length c26]]) (Wt.yes rfl rfl rfl hk408) rfl rfl hbd20 rfl rfl (types_Scalar.calls (a0 := y23.1) (rd339.up (Gd.le.trans (Gd.le.trans (Gd.le.trans e347 e362) e381) e398)) le340 hy410) rfl ?_)
                  rintro _ _ _ _ ⟨rfl, rfl, rfl⟩
                  refine TA.next (fun W hO => (hb349 _ _ (hb364 _ _ (hb383 _ _ (hb400 _ _ hO)))).selT (Ls := [Row k24 24 (.slice A3 y1.f2.length c4) y1.f2, Row k36 36 (.slice (some ⟨b14, 0, none⟩) 1 1) ([(⟨5, (⟨#[]⟩ : ByteArray), 0, ([] : List S36)⟩ : S36)] : List S36), Blk b34 [.int .i64 y29.1.f0, .int .i64 y29.1.f1, .slice A31 y29.1.f2.length c32] 24, Row k24 24 (.slice A31 y29.1.f2.length c32) y29.1.f2, Blk b28 [.int .i64 y23.1.f0, .int .i64 y23.1.f1, .slice A25 y23.1.f2.length c26] 24]) [4, 5, 6, 7, 8] 9 rfl rfl rfl) ?_
                  refine TA.take 36 rfl (by kernel_rfl) rfl (PQ.then_ PQ.body) rfl (Val.pickY rfl hk408 rfl) (fun W hO => (hb349 _ _ (hb364 _ _ (hb383 _ _ (hb400 _ _ hO)))).selT (Ls := [Row k24 24 (.slice A3 y1.f2.length c4) y1.f2, Row k36 36 (.slice (some ⟨b14, 0, none⟩) 1 1) ([(⟨5, (⟨#[]⟩ : ByteArray), 0, ([] : List S36)⟩ : S36)] : List S36), Blk b34 [.int .i64 y29.1.f0, .int .i64 y29.1.f1, .slice A31 y29.1.f2.length c32] 24, Row k24 24 (.slice A31 y29.1.f2.length c32) y29.1.f2, Blk b28 [.int .i64 y23.1.f0, .int .i64 y23.1.f1, .slice A25 y23.1.f2.length c26] 24]) [4, 5, 6, 7, 8] 9 rfl rfl rfl) ?_
                  refine TA.take 37 rfl (by kernel_rfl) rfl (PQ.then_ PQ.body) rfl (Val.move rfl) (fun W hO => (hb349 _ _ (hb364 _ _ (hb383 _ _ (hb400 _ _ hO)))).selT (Ls := [Row k24 24 (.slice A3 y1.f2.length c4) y1.f2, Row k36 36 (.slice (some ⟨b14, 0, none⟩) 1 1) ([(⟨5, (⟨#[]⟩ : ByteArray), 0, ([] : List S36)⟩ : S36)] : List S36), Blk b34 [.int .i64 y29.1.f0, .int .i64 y29.1.f1, .slice A31 y29.1.f2.length c32] 24, Row k24 24 (.slice A31 y29.1.f2.length c32) y29.1.f2, Blk b28 [.int .i64 y23.1.f0, .int .i64 y23.1.f1, .slice A25 y23.1.f2.length c26] 24]) [4, 5, 6, 7, 8] 9 rfl rfl rfl) ?_
                  refine TK.split (p := y409 = true) h (fun hg411 h => ?_) (fun hg411 h => ?_)
                  · have hk412 : y409 = true := hg411
                    obtain ⟨y413, hy414, h⟩ := bind_no h
                    refine TA.eff 38 rfl (by kernel_rfl) rfl (TL.callV (Lin := []) (args := []) (Wt.yes rfl rfl rfl hk412) rfl rfl hbd27 rfl rfl (swagelaw11_some.calls hy414) rfl ?_)
                    rintro _ _ _ _ ⟨rfl, A415, c416, rfl, rfl⟩
                    refine TA.next (fun W hO => (hb349 _ _ (hb364 _ _ (hb383 _ _ (hb400 _ _ hO)))).selT (Ls := [Row k24 24 (.slice A3 y1.f2.length c4) y1.f2, Row k36 36 (.slice (some ⟨b14, 0, none⟩) 1 1) ([(⟨5, (⟨#[]⟩ : ByteArray), 0, ([] : List S36)⟩ : S36)] : List S36), Blk b34 [.int .i64 y29.1.f0, .int .i64 y29.1.f1, .slice A31 y29.1.f2.length c32] 24, Row k24 24 (.slice A31 y29.1.f2.length c32) y29.1.f2, Blk b28 [.int .i64 y23.1.f0, .int .i64 y23.1.f1, .slice A25 y23.1.f2.length c26] 24]) [5, 6, 7, 8, 9] 10 rfl rfl rfl) ?_
                    refine TK.share (fun G418 e419 hs420 hb421 => ?_)
                    have rd422 : Rd G418 k24 A415 y413.f2 := Rd.row hs420
                    have le423 : y413.f2.length ≤ c416 := Row.le hs420
                    obtain ⟨y424, hy425, h⟩ := bind_no h
                    refine TA.eff 39 rfl (by kernel_rfl) rfl (TL.callV (Lin := []) (args := [.agg #[.int .i64 y413.f0, .int .i64 y413.f1, .slice A415 y413.f2.length c416]]) (Wt.yes rfl rfl rfl hk412) rfl rfl hbd20 rfl rfl (types_Scalar.calls (a0 := y413) rd422 le423 hy425) rfl ?_)
                    rintro _ _ _ _ ⟨rfl, rfl, rfl⟩
                    refine TA.next (fun W hO => (hb349 _ _ (hb364 _ _ (hb383 _ _ (hb400 _ _ (hb421 _ _ hO))))).selT (Ls := [Row k24 24 (.slice A3 y1.f2.length c4) y1.f2, Row k36 36 (.slice (some ⟨b14, 0, none⟩) 1 1) ([(⟨5, (⟨#[]⟩ : ByteArray), 0, ([] : List S36)⟩ : S36)] : List S36), Blk b34 [.int .i64 y29.1.f0, .int .i64 y29.1.f1, .slice A31 y29.1.f2.length c32] 24, Row k24 24 (.slice A31 y29.1.f2.length c32) y29.1.f2, Blk b28 [.int .i64 y23.1.f0, .int .i64 y23.1.f1, .slice A25 y23.1.f2.length c26] 24]) [5, 6, 7, 8, 9] 10 rfl rfl rfl) ?_
                    refine TA.take 40 rfl (by kernel_rfl) rfl (PQ.then_ PQ.body) (Wt.yes rfl rfl rfl hk412) (Val.not_ rfl) (fun W hO => (hb349 _ _ (hb364 _ _ (hb383 _ _ (hb400 _ _ (hb421 _ _ hO))))).selT (Ls := [Row k24 24 (.slice A3 y1.f2.length c4) y1.f2, Row k36 36 (.slice (some ⟨b14, 0, none⟩) 1 1) ([(⟨5, (⟨#[]⟩ : ByteArray), 0, ([] : List S36)⟩ : S36)] : List S36), Blk b34 [.int .i64 y29.1.f0, .int .i64 y29.1.f1, .slice A31 y29.1.f2.length c32] 24, Row k24 24 (.slice A31 y29.1.f2.length c32) y29.1.f2, Blk b28 [.int .i64 y23.1.f0, .int .i64 y23.1.f1, .slice A25 y23.1.f2.length c26] 24]) [5, 6, 7, 8, 9] 10 rfl rfl rfl) ?_
                    refine TA.take 41 rfl (by kernel_rfl) rfl (PQ.then_ PQ.body) rfl (Val.pickY rfl hk412 rfl) (fun W hO => (hb349 _ _ (hb364 _ _ (hb383 _ _ (hb400 _ _ (hb421 _ _ hO))))).selT (Ls := [Row k24 24 (.slice A3 y1.f2.length c4) y1.f2, Row k36 36 (.slice (some ⟨b14, 0, none⟩) 1 1) ([(⟨5, (⟨#[]⟩ : ByteArray), 0, ([] : List S36)⟩ : S36)] : List S36), Blk b34 [.int .i64 y29.1.f0, .int .i64 y29.1.f1, .slice A31 y29.1.f2.length c32] 24, Row k24 24 (.slice A31 y29.1.f2.length c32) y29.1.f2, Blk b28 [.int .i64 y23.1.f0, .int .i64 y23.1.f1, .slice A25 y23.1.f2.length c26] 24]) [5, 6, 7, 8, 9] 10 rfl rfl rfl) ?_
                    refine TA.take 42 rfl (by kernel_rfl) rfl (PQ.then_ PQ.body) rfl (Val.assign rfl) (fun W hO => (hb349 _ _ (hb364 _ _ (hb383 _ _ (hb400 _ _ (hb421 _ _ hO))))).selT (Ls := [Row k24 24 (.slice A3 y1.f2.length c4) y1.f2, Row k36 36 (.slice (some ⟨b14, 0, none⟩) 1 1) ([(⟨5, (⟨#[]⟩ : ByteArray), 0, ([] : List S36)⟩ : S36)] : List S36), Blk b34 [.int .i64 y29.1.f0, .int .i64 y29.1.f1, .slice A31 y29.1.f2.length c32] 24, Row k24 24 (.slice A31 y29.1.f2.length c32) y29.1.f2, Blk b28 [.int .i64 y23.1.f0, .int .i64 y23.1.f1, .slice A25 y23.1.f2.length c26] 24]) [5, 6, 7, 8, 9] 10 rfl rfl rfl) ?_
                    refine TA.done (by kernel_rfl) ?_
                    refine TQ.then_ ?_
                    refine TC.ret ?_
                    refine TQ.back hb421 ?_
                    refine TQ.back hb400 ?_
                    refine TQ.back hb383 ?_
                    refine TQ.back hb364 ?_
                    refine TQ.back hb349 ?_
                    refine TQ.back hb338 ?_
                    obtain rfl := Option.some.inj h
                    exact TQ.fin (.inl rfl) rfl Tryd.results7 (.tmp rfl .nil) rfl (FRel.mk (Ls := []) [] 11 (Gd.le.refl _) rfl rfl rfl ⟨rfl, rfl, rfl⟩)
                  · have hk426 : y409 = false := (by simpa using hg411)
                    refine TA.not 38 rfl (by kernel_rfl) rfl (PQ.then_ PQ.body) (Wt.no rfl rfl rfl hk426) (fun W hO => (hb349 _ _ (hb364 _ _ (hb383 _ _ (hb400 _ _ hO)))).selT (Ls := [Row k24 24 (.slice A3 y1.f2.length c4) y1.f2, Row k36 36 (.slice (some ⟨b14, 0, none⟩) 1 1) ([(⟨5, (⟨#[]⟩ : ByteArray), 0, ([] : List S36)⟩ : S36)] : List S36), Blk b34 [.int .i64 y29.1.f0, .int .i64 y29.1.f1, .slice A31 y29.1.f2.length c32] 24, Row k24 24 (.slice A31 y29.1.f2.length c32) y29.1.f2, Blk b28 [.int .i64 y23.1.f0, .int .i64 y23.1.f1, .slice A25 y23.1.f2.length c26] 24]) [4, 5, 6, 7, 8] 9 rfl rfl rfl) ?_
                    refine TA.not 39 rfl (by kernel_rfl) rfl (PQ.then_ PQ.body) (Wt.no rfl rfl rfl hk426) (fun W hO => (hb349 _ _ (hb364 _ _ (hb383 _ _ (hb400 _ _ hO)))).selT (Ls := [Row k24 24 (.slice A3 y1.f2.length c4) y1.f2, Row k36 36 (.slice (some ⟨b14, 0, none⟩) 1 1) ([(⟨5, (⟨#[]⟩ : ByteArray), 0, ([] : List S36)⟩ : S36)] : List S36), Blk b34 [.int .i64 y29.1.f0, .int .i64 y29.1.f1, .slice A31 y29.1.f2.length c32] 24, Row k24 24 (.slice A31 y29.1.f2.length c32) y29.1.f2, Blk b28 [.int .i64 y23.1.f0, .int .i64 y23.1.f1, .slice A25 y23.1.f2.length c26] 24]) [4, 5, 6, 7, 8] 9 rfl rfl rfl) ?_
                    refine TA.not 40 rfl (by kernel_rfl) rfl (PQ.then_ PQ.body) (Wt.no rfl rfl rfl hk426) (fun W hO => (hb349 _ _ (hb364 _ _ (hb383 _ _ (hb400 _ _ hO)))).selT (Ls := [Row k24 24 (.slice A3 y1.f2.length c4) y1.f2, Row k36 36 (.slice (some ⟨b14, 0, none⟩) 1 1) ([(⟨5, (⟨#[]⟩ : ByteArray), 0, ([] : List S36)⟩ : S36)] : List S36), Blk b34 [.int .i64 y29.1.f0, .int .i64 y29.1.f1, .slice A31 y29.1.f2.length c32] 24, Row k24 24 (.slice A31 y29.1.f2.length c32) y29.1.f2, Blk b28 [.int .i64 y23.1.f0, .int .i64 y23.1.f1, .slice A25 y23.1.f2.length c26] 24]) [4, 5, 6, 7, 8] 9 rfl rfl rfl) ?_
                    refine TA.take 41 rfl (by kernel_rfl) rfl (PQ.then_ PQ.body) rfl (Val.pickN rfl hk426 rfl) (fun W hO => (hb349 _ _ (hb364 _ _ (hb383 _ _ (hb400 _ _ hO)))).selT (Ls := [Row k24 24 (.slice A3 y1.f2.length c4) y1.f2, Row k36 36 (.slice (some ⟨b14, 0, none⟩) 1 1) ([(⟨5, (⟨#[]⟩ : ByteArray), 0, ([] : List S36)⟩ : S36)] : List S36), Blk b34 [.int .i64 y29.1.f0, .int .i64 y29.1.f1, .slice A31 y29.1.f2.length c32] 24, Row k24 24 (.slice A31 y29.1.f2.length c32) y29.1.f2, Blk b28 [.int .i64 y23.1.f0, .int .i64 y23.1.f1, .slice A25 y23.1.f2.length c26] 24]) [4, 5, 6, 7, 8] 9 rfl rfl rfl) ?_
                    refine TA.take 42 rfl (by kernel_rfl) rfl (PQ.then_ PQ.body) rfl (Val.assign rfl) (fun W hO => (hb349 _ _ (hb364 _ _ (hb383 _ _ (hb400 _ _ hO)))).selT (Ls := [Row k24 24 (.slice A3 y1.f2.length c4) y1.f2, Row k36 36 (.slice (some ⟨b14, 0, none⟩) 1 1) ([(⟨5, (⟨#[]⟩ : ByteArray), 0, ([] : List S36)⟩ : S36)] : List S36), Blk b34 [.int .i64 y29.1.f0, .int .i64 y29.1.f1, .slice A31 y29.1.f2.length c32] 24, Row k24 24 (.slice A31 y29.1.f2.length c32) y29.1.f2, Blk b28 [.int .i64 y23.1.f0, .int .i64 y23.1.f1, .slice A25 y23.1.f2.length c26] 24]) [4, 5, 6, 7, 8] 9 rfl rfl rfl) ?_
                    refine TA.done (by kernel_rfl) ?_
                    refine TQ.then_ ?_
                    refine TC.ret ?_
                    refine TQ.back hb400 ?_
                    refine TQ.back hb383 ?_
                    refine TQ.back hb364 ?_
                    refine TQ.back hb349 ?_
                    refine TQ.back hb338 ?_
                    obtain rfl := Option.some.inj h
                    exact TQ.fin (.inl rfl) rfl Tryd.results7 (.tmp rfl .nil) rfl (FRel.mk (Ls := []) [] 10 (Gd.le.refl _) rfl rfl rfl ⟨rfl, rfl, rfl⟩)
                · have hk427 : decide (y29.2 = 1) = false := decide_eq_false hg407
                  refine TA.not 34 rfl (by kernel_rfl) rfl (PQ.then_ PQ.body) (Wt.no rfl rfl rfl hk427) (fun W hO => (hb349 _ _ (hb364 _ _ (hb383 _ _ (hb400 _ _ hO)))).selT (Ls := [Row k24 24 (.slice A3 y1.f2.length c4) y1.f2, Row k36 36 (.slice (some ⟨b14, 0, none⟩) 1 1) ([(⟨5, (⟨#[]⟩ : ByteArray), 0, ([] : List S36)⟩ : S36)] : List S36), Blk b34 [.int .i64 y29.1.f0, .int .i64 y29.1.f1, .slice A31 y29.1.f2.length c32] 24, Row k24 24 (.slice A31 y29.1.f2.length c32) y29.1.f2, Blk b28 [.int .i64 y23.1.f0, .int .i64 y23.1.f1, .slice A25 y23.1.f2.length c26] 24]) [4, 5, 6, 7, 8] 9 rfl rfl rfl) ?_
                  refine TA.not 35 rfl (by kernel_rfl) rfl (PQ.then_ PQ.body) (Wt.no rfl rfl rfl hk427) (fun W hO => (hb349 _ _ (hb364 _ _ (hb383 _ _ (hb400 _ _ hO)))).selT (Ls := [Row k24 24 (.slice A3 y1.f2.length c4) y1.f2, Row k36 36 (.slice (some ⟨b14, 0, none⟩) 1 1) ([(⟨5, (⟨#[]⟩ : ByteArray), 0, ([] : List S36)⟩ : S36)] : List S36), Blk b34 [.int .i64 y29.1.f0, .int .i64 y29.1.f1, .slice A31 y29.1.f2.length c32] 24, Row k24 24 (.slice A31 y29.1.f2.length c32) y29.1.f2, Blk b28 [.int .i64 y23.1.f0, .int .i64 y23.1.f1, .slice A25 y23.1.f2.length c26] 24]) [4, 5, 6, 7, 8] 9 rfl rfl rfl) ?_
                  refine TA.take 36 rfl (by kernel_rfl) rfl (PQ.then_ PQ.body) rfl (Val.pickN rfl hk427 rfl) (fun W hO => (hb349 _ _ (hb364 _ _ (hb383 _ _ (hb400 _ _ hO)))).selT (Ls := [Row k24 24 (.slice A3 y1.f2.length c4) y1.f2, Row k36 36 (.slice (some ⟨b14, 0, none⟩) 1 1) ([(⟨5, (⟨#[]⟩ : ByteArray), 0, ([] : List S36)⟩ : S36)] : List S36), Blk b34 [.int .i64 y29.1.f0, .int .i64 y29.1.f1, .slice A31 y29.1.f2.length c32] 24, Row k24 24 (.slice A31 y29.1.f2.length c32) y29.1.f2, Blk b28 [.int .i64 y23.1.f0, .int .i64 y23.1.f1, .slice A25 y23.1.f2.length c26] 24]) [4, 5, 6, 7, 8] 9 rfl rfl rfl) ?_
                  refine TA.take 37 rfl (by kernel_rfl) rfl (PQ.then_ PQ.body) rfl (Val.move rfl) (fun W hO => (hb349 _ _ (hb364 _ _ (hb383 _ _ (hb400 _ _ hO)))).selT (Ls := [Row k24 24 (.slice A3 y1.f2.length c4) y1.f2, Row k36 36 (.slice (some ⟨b14, 0, none⟩) 1 1) ([(⟨5, (⟨#[]⟩ : ByteArray), 0, ([] : List S36)⟩ : S36)] : List S36), Blk b34 [.int .i64 y29.1.f0, .int .i64 y29.1.f1, .slice A31 y29.1.f2.length c32] 24, Row k24 24 (.slice A31 y29.1.f2.length c32) y29.1.f2, Blk b28 [.int .i64 y23.1.f0, .int .i64 y23.1.f1, .slice A25 y23.1.f2.length c26] 24]) [4, 5, 6, 7, 8] 9 rfl rfl rfl) ?_
                  refine TA.not 38 rfl (by kernel_rfl) rfl (PQ.then_ PQ.body) (Wt.no rfl rfl rfl rfl) (fun W hO => (hb349 _ _ (hb364 _ _ (hb383 _ _ (hb400 _ _ hO)))).selT (Ls := [Row k24 24 (.slice A3 y1.f2.length c4) y1.f2, Row k36 36 (.slice (some ⟨b14, 0, none⟩) 1 1) ([(⟨5, (⟨#[]⟩ : ByteArray), 0, ([] : List S36)⟩ : S36)] : List S36), Blk b34 [.int .i64 y29.1.f0, .int .i64 y29.1.f1, .slice A31 y29.1.f2.length c32] 24, Row k24 24 (.slice A31 y29.1.f2.length c32) y29.1.f2, Blk b28 [.int .i64 y23.1.f0, .int .i64 y23.1.f1, .slice A25 y23.1.f2.length c26] 24]) [4, 5, 6, 7, 8] 9 rfl rfl rfl) ?_
                  refine TA.not 39 rfl (by kernel_rfl) rfl (PQ.then_ PQ.body) (Wt.no rfl rfl rfl rfl) (fun W hO => (hb349 _ _ (hb364 _ _ (hb383 _ _ (hb400 _ _ hO)))).selT (Ls := [Row k24 24 (.slice A3 y1.f2.length c4) y1.f2, Row k36 36 (.slice (some ⟨b14, 0, none⟩) 1 1) ([(⟨5, (⟨#[]⟩ : ByteArray), 0, ([] : List S36)⟩ : S36)] : List S36), Blk b34 [.int .i64 y29.1.f0, .int .i64 y29.1.f1, .slice A31 y29.1.f2.length c32] 24, Row k24 24 (.slice A31 y29.1.f2.length c32) y29.1.f2, Blk b28 [.int .i64 y23.1.f0, .int .i64 y23.1.f1, .slice A25 y23.1.f2.length c26] 24]) [4, 5, 6, 7, 8] 9 rfl rfl rfl) ?_
                  refine TA.not 40 rfl (by kernel_rfl) rfl (PQ.then_ PQ.body) (Wt.no rfl rfl rfl rfl) (fun W hO => (hb349 _ _ (hb364 _ _ (hb383 _ _ (hb400 _ _ hO)))).selT (Ls := [Row k24 24 (.slice A3 y1.f2.length c4) y1.f2, Row k36 36 (.slice (some ⟨b14, 0, none⟩) 1 1) ([(⟨5, (⟨#[]⟩ : ByteArray), 0, ([] : List S36)⟩ : S36)] : List S36), Blk b34 [.int .i64 y29.1.f0, .int .i64 y29.1.f1, .slice A31 y29.1.f2.length c32] 24, Row k24 24 (.slice A31 y29.1.f2.length c32) y29.1.f2, Blk b28 [.int .i64 y23.1.f0, .int .i64 y23.1.f1, .slice A25 y23.1.f2.length c26] 24]) [4, 5, 6, 7, 8] 9 rfl rfl rfl) ?_
                  refine TA.take 41 rfl (by kernel_rfl) rfl (PQ.then_ PQ.body) rfl (Val.pickN rfl rfl rfl) (fun W hO => (hb349 _ _ (hb364 _ _ (hb383 _ _ (hb400 _ _ hO)))).selT (Ls := [Row k24 24 (.slice A3 y1.f2.length c4) y1.f2, Row k36 36 (.slice (some ⟨b14, 0, none⟩) 1 1) ([(⟨5, (⟨#[]⟩ : ByteArray), 0, ([] : List S36)⟩ : S36)] : List S36), Blk b34 [.int .i64 y29.1.f0, .int .i64 y29.1.f1, .slice A31 y29.1.f2.length c32] 24, Row k24 24 (.slice A31 y29.1.f2.length c32) y29.1.f2, Blk b28 [.int .i64 y23.1.f0, .int .i64 y23.1.f1, .slice A25 y23.1.f2.length c26] 24]) [4, 5, 6, 7, 8] 9 rfl rfl rfl) ?_
                  refine TA.take 42 rfl (by kernel_rfl) rfl (PQ.then_ PQ.body) rfl (Val.assign rfl) (fun W hO => (hb349 _ _ (hb364 _ _ (hb383 _ _ (hb400 _ _ hO)))).selT (Ls := [Row k24 24 (.slice A3 y1.f2.length c4) y1.f2, Row k36 36 (.slice (some ⟨b14, 0, none⟩) 1 1) ([(⟨5, (⟨#[]⟩ : ByteArray), 0, ([] : List S36)⟩ : S36)] : List S36), Blk b34 [.int .i64 y29.1.f0, .int .i64 y29.1.f1, .slice A31 y29.1.f2.length c32] 24, Row k24 24 (.slice A31 y29.1.f2.length c32) y29.1.f2, Blk b28 [.int .i64 y23.1.f0, .int .i64 y23.1.f1, .slice A25 y23.1.f2.length c26] 24]) [4, 5, 6, 7, 8] 9 rfl rfl rfl) ?_
                  refine TA.done (by kernel_rfl) ?_
                  refine TQ.then_ ?_
                  refine TC.ret ?_
                  refine TQ.back hb400 ?_
                  refine TQ.back hb383 ?_
                  refine TQ.back hb364 ?_
                  refine TQ.back hb349 ?_
                  refine TQ.back hb338 ?_
                  obtain rfl := Option.some.inj h
                  exact TQ.fin (.inl rfl) rfl Tryd.results7 (.tmp rfl .nil) rfl (FRel.mk (Ls := []) [] 10 (Gd.le.refl _) rfl rfl rfl ⟨rfl, rfl, rfl⟩)
              · have hk428 : y403 = false := (by simpa using hg405)
                refine TA.not 30 rfl (by kernel_rfl) rfl (PQ.then_ PQ.body) (Wt.no rfl rfl rfl hk428) (fun W hO => (hb349 _ _ (hb364 _ _ (hb383 _ _ (hb400 _ _ hO)))).selT (Ls := [Row k24 24 (.slice A3 y1.f2.length c4) y1.f2, Row k36 36 (.slice (some ⟨b14, 0, none⟩) 1 1) ([(⟨5, (⟨#[]⟩ : ByteArray), 0, ([] : List S36)⟩ : S36)] : List S36), Blk b34 [.int .i64 y29.1.f0, .int .i64 y29.1.f1, .slice A31 y29.1.f2.length c32] 24, Row k24 24 (.slice A31 y29.1.f2.length c32) y29.1.f2, Blk b28 [.int .i64 y23.1.f0, .int .i64 y23.1.f1, .slice A25 y23.1.f2.length c26] 24]) [4, 5, 6, 7, 8] 9 rfl rfl rfl) ?_
                refine TA.not 31 rfl (by kernel_rfl) rfl (PQ.then_ PQ.body) (Wt.no rfl rfl rfl hk428) (fun W hO => (hb349 _ _ (hb364 _ _ (hb383 _ _ (hb400 _ _ hO)))).selT (Ls := [Row k24 24 (.slice A3 y1.f2.length c4) y1.f2, Row k36 36 (.slice (some ⟨b14, 0, none⟩) 1 1) ([(⟨5, (⟨#[]⟩ : ByteArray), 0, ([] : List S36)⟩ : S36)] : List S36), Blk b34 [.int .i64 y29.1.f0, .int .i64 y29.1.f1, .slice A31 y29.1.f2.length c32] 24, Row k24 24 (.slice A31 y29.1.f2.length c32) y29.1.f2, Blk b28 [.int .i64 y23.1.f0, .int .i64 y23.1.f1, .slice A25 y23.1.f2.length c26] 24]) [4, 5, 6, 7, 8] 9 rfl rfl rfl) ?_
                refine TA.take 32 rfl (by kernel_rfl) rfl (PQ.then_ PQ.body) rfl (Val.pickN rfl hk428 rfl) (fun W hO => (hb349 _ _ (hb364 _ _ (hb383 _ _ (hb400 _ _ hO)))).selT (Ls := [Row k24 24 (.slice A3 y1.f2.length c4) y1.f2, Row k36 36 (.slice (some ⟨b14, 0, none⟩) 1 1) ([(⟨5, (⟨#[]⟩ : ByteArray), 0, ([] : List S36)⟩ : S36)] : List S36), Blk b34 [.int .i64 y29.1.f0, .int .i64 y29.1.f1, .slice A31 y29.1.f2.length c32] 24, Row k24 24 (.slice A31 y29.1.f2.length c32) y29.1.f2, Blk b28 [.int .i64 y23.1.f0, .int .i64 y23.1.f1, .slice A25 y23.1.f2.length c26] 24]) [4, 5, 6, 7, 8] 9 rfl rfl rfl) ?_
                refine TA.take 33 rfl (by kernel_rfl) rfl (PQ.then_ PQ.body) rfl (Val.move rfl) (fun W hO => (hb349 _ _ (hb364 _ _ (hb383 _ _ (hb400 _ _ hO)))).selT (Ls := [Row k24 24 (.slice A3 y1.f2.length c4) y1.f2, Row k36 36 (.slice (some ⟨b14, 0, none⟩) 1 1) ([(⟨5, (⟨#[]⟩ : ByteArray), 0, ([] : List S36)⟩ : S36)] : List S36), Blk b34 [.int .i64 y29.1.f0, .int .i64 y29.1.f1, .slice A31 y29.1.f2.length c32] 24, Row k24 24 (.slice A31 y29.1.f2.length c32) y29.1.f2, Blk b28 [.int .i64 y23.1.f0, .int .i64 y23.1.f1, .slice A25 y23.1.f2.length c26] 24]) [4, 5, 6, 7, 8] 9 rfl rfl rfl) ?_
                refine TA.not 34 rfl (by kernel_rfl) rfl (PQ.then_ PQ.body) (Wt.no rfl rfl rfl rfl) (fun W hO => (hb349 _ _ (hb364 _ _ (hb383 _ _ (hb400 _ _ hO)))).selT (Ls := [Row k24 24 (.slice A3 y1.f2.length c4) y1.f2, Row k36 36 (.slice (some ⟨b14, 0, none⟩) 1 1) ([(⟨5, (⟨#[]⟩ : ByteArray), 0, ([] : List S36)⟩ : S36)] : List S36), Blk b34 [.int .i64 y29.1.f0, .int .i64 y29.1.f1, .slice A31 y29.1.f2.length c32] 24, Row k24 24 (.slice A31 y29.1.f2.length c32) y29.1.f2, Blk b28 [.int .i64 y23.1.f0, .int .i64 y23.1.f1, .slice A25 y23.1.f2.length c26] 24]) [4, 5, 6, 7, 8] 9 rfl rfl rfl) ?_
                refine TA.not 35 rfl (by kernel_rfl) rfl (PQ.then_ PQ.body) (Wt.no rfl rfl rfl rfl) (fun W hO => (hb349 _ _ (hb364 _ _ (hb383 _ _ (hb400 _ _ hO)))).selT (Ls := [Row k24 24 (.slice A3 y1.f2.length c4) y1.f2, Row k36 36 (.slice (some ⟨b14, 0, none⟩) 1 1) ([(⟨5, (⟨#[]⟩ : ByteArray), 0, ([] : List S36)⟩ : S36)] : List S36), Blk b34 [.int .i64 y29.1.f0, .int .i64 y29.1.f1, .slice A31 y29.1.f2.length c32] 24, Row k24 24 (.slice A31 y29.1.f2.length c32) y29.1.f2, Blk b28 [.int .i64 y23.1.f0, .int .i64 y23.1.f1, .slice A25 y23.1.f2.length c26] 24]) [4, 5, 6, 7, 8] 9 rfl rfl rfl) ?_
                refine TA.take 36 rfl (by kernel_rfl) rfl (PQ.then_ PQ.body) rfl (Val.pickN rfl rfl rfl) (fun W hO => (hb349 _ _ (hb364 _ _ (hb383 _ _ (hb400 _ _ hO)))).selT (Ls := [Row k24 24 (.slice A3 y1.f2.length c4) y1.f2, Row k36 36 (.slice (some ⟨b14, 0, none⟩) 1 1) ([(⟨5, (⟨#[]⟩ : ByteArray), 0, ([] : List S36)⟩ : S36)] : List S36), Blk b34 [.int .i64 y29.1.f0, .int .i64 y29.1.f1, .slice A31 y29.1.f2.length c32] 24, Row k24 24 (.slice A31 y29.1.f2.length c32) y29.1.f2, Blk b28 [.int .i64 y23.1.f0, .int .i64 y23.1.f1, .slice A25 y23.1.f2.length c26] 24]) [4, 5, 6, 7, 8] 9 rfl rfl rfl) ?_
                refine TA.take 37 rfl (by kernel_rfl) rfl (PQ.then_ PQ.body) rfl (Val.move rfl) (fun W hO => (hb349 _ _ (hb364 _ _ (hb383 _ _ (hb400 _ _ hO)))).selT (Ls := [Row k24 24 (.slice A3 y1.f2.length c4) y1.f2, Row k36 36 (.slice (some ⟨b14, 0, none⟩) 1 1) ([(⟨5, (⟨#[]⟩ : ByteArray), 0, ([] : List S36)⟩ : S36)] : List S36), Blk b34 [.int .i64 y29.1.f0, .int .i64 y29.1.f1, .slice A31 y29.1.f2.length c32] 24, Row k24 24 (.slice A31 y29.1.f2.length c32) y29.1.f2, Blk b28 [.int .i64 y23.1.f0, .int .i64 y23.1.f1, .slice A25 y23.1.f2.length c26] 24]) [4, 5, 6, 7, 8] 9 rfl rfl rfl) ?_
                refine TA.not 38 rfl (by kernel_rfl) rfl (PQ.then_ PQ.body) (Wt.no rfl rfl rfl rfl) (fun W hO => (hb349 _ _ (hb364 _ _ (hb383 _ _ (hb400 _ _ hO)))).selT (Ls := [Row k24 24 (.slice A3 y1.f2.length c4) y1.f2, Row k36 36 (.slice (some ⟨b14, 0, none⟩) 1 1) ([(⟨5, (⟨#[]⟩ : ByteArray), 0, ([] : List S36)⟩ : S36)] : List S36), Blk b34 [.int .i64 y29.1.f0, .int .i64 y29.1.f1, .slice A31 y29.1.f2.length c32] 24, Row k24 24 (.slice A31 y29.1.f2.length c32) y29.1.f2, Blk b28 [.int .i64 y23.1.f0, .int .i64 y23.1.f1, .slice A25 y23.1.f2.length c26] 24]) [4, 5, 6, 7, 8] 9 rfl rfl rfl) ?_
                refine TA.not 39 rfl (by kernel_rfl) rfl (PQ.then_ PQ.body) (Wt.no rfl rfl rfl rfl) (fun W hO => (hb349 _ _ (hb364 _ _ (hb383 _ _ (hb400 _ _ hO)))).selT (Ls := [Row k24 24 (.slice A3 y1.f2.length c4) y1.f2, Row k36 36 (.slice (some ⟨b14, 0, none⟩) 1 1) ([(⟨5, (⟨#[]⟩ : ByteArray), 0, ([] : List S36)⟩ : S36)] : List S36), Blk b34 [.int .i64 y29.1.f0, .int .i64 y29.1.f1, .slice A31 y29.1.f2.length c32] 24, Row k24 24 (.slice A31 y29.1.f2.length c32) y29.1.f2, Blk b28 [.int .i64 y23.1.f0, .int .i64 y23.1.f1, .slice A25 y23.1.f2.length c26] 24]) [4, 5, 6, 7, 8] 9 rfl rfl rfl) ?_
                refine TA.not 40 rfl (by kernel_rfl) rfl (PQ.then_ PQ.body) (Wt.no rfl rfl rfl rfl) (fun W hO => (hb349 _ _ (hb364 _ _ (hb383 _ _ (hb400 _ _ hO)))).selT (Ls := [Row k24 24 (.slice A3 y1.f2.length c4) y1.f2, Row k36 36 (.slice (some ⟨b14, 0, none⟩) 1 1) ([(⟨5, (⟨#[]⟩ : ByteArray), 0, ([] : List S36)⟩ : S36)] : List S36), Blk b34 [.int .i64 y29.1.f0, .int .i64 y29.1.f1, .slice A31 y29.1.f2.length c32] 24, Row k24 24 (.slice A31 y29.1.f2.length c32) y29.1.f2, Blk b28 [.int .i64 y23.1.f0, .int .i64 y23.1.f1, .slice A25 y23.1.f2.length c26] 24]) [4, 5, 6, 7, 8] 9 rfl rfl rfl) ?_
                refine TA.take 41 rfl (by kernel_rfl) rfl (PQ.then_ PQ.body) rfl (Val.pickN rfl rfl rfl) (fun W hO => (hb349 _ _ (hb364 _ _ (hb383 _ _ (hb400 _ _ hO)))).selT (Ls := [Row k24 24 (.slice A3 y1.f2.length c4) y1.f2, Row k36 36 (.slice (some ⟨b14, 0, none⟩) 1 1) ([(⟨5, (⟨#[]⟩ : ByteArray), 0, ([] : List S36)⟩ : S36)] : List S36), Blk b34 [.int .i64 y29.1.f0, .int .i64 y29.1.f1, .slice A31 y29.1.f2.length c32] 24, Row k24 24 (.slice A31 y29.1.f2.length c32) y29.1.f2, Blk b28 [.int .i64 y23.1.f0, .int .i64 y23.1.f1, .slice A25 y23.1.f2.length c26] 24]) [4, 5, 6, 7, 8] 9 rfl rfl rfl) ?_
                refine TA.take 42 rfl (by kernel_rfl) rfl (PQ.then_ PQ.body) rfl (Val.assign rfl) (fun W hO => (hb349 _ _ (hb364 _ _ (hb383 _ _ (hb400 _ _ hO)))).selT (Ls := [Row k24 24 (.slice A3 y1.f2.length c4) y1.f2, Row k36 36 (.slice (some ⟨b14, 0, none⟩) 1 1) ([(⟨5, (⟨#[]⟩ : ByteArray), 0, ([] : List S36)⟩ : S36)] : List S36), Blk b34 [.int .i64 y29.1.f0, .int .i64 y29.1.f1, .slice A31 y29.1.f2.length c32] 24, Row k24 24 (.slice A31 y29.1.f2.length c32) y29.1.f2, Blk b28 [.int .i64 y23.1.f0, .int .i64 y23.1.f1, .slice A25 y23.1.f2.length c26] 24]) [4, 5, 6, 7, 8] 9 rfl rfl rfl) ?_
                refine TA.done (by kernel_rfl) ?_
                refine TQ.then_ ?_
                refine TC.ret ?_
                refine TQ.back hb400 ?_
                refine TQ.back hb383 ?_
                refine TQ.back hb364 ?_
                refine TQ.back hb349 ?_
                refine TQ.back hb338 ?_
                obtain rfl := Option.some.inj h
                exact TQ.fin (.inl rfl) rfl Tryd.results7 (.tmp rfl .nil) rfl (FRel.mk (Ls := []) [] 10 (Gd.le.refl _) rfl rfl rfl ⟨rfl, rfl, rfl⟩)
            · have hk429 : decide (y23.2 = 0) = false := decide_eq_false hg390
              refine TA.not 24 rfl (by kernel_rfl) rfl (PQ.then_ PQ.body) (Wt.no rfl rfl rfl hk429) (fun W hO => (hb349 _ _ (hb364 _ _ (hb383 _ _ hO))).selT (Ls := [Row k24 24 (.slice A3 y1.f2.length c4) y1.f2, Row k36 36 (.slice (some ⟨b14, 0, none⟩) 1 1) ([(⟨5, (⟨#[]⟩ : ByteArray), 0, ([] : List S36)⟩ : S36)] : List S36), Blk b34 [.int .i64 y29.1.f0, .int .i64 y29.1.f1, .slice A31 y29.1.f2.length c32] 24, Row k24 24 (.slice A31 y29.1.f2.length c32) y29.1.f2, Blk b28 [.int .i64 y23.1.f0, .int .i64 y23.1.f1, .slice A25 y23.1.f2.length c26] 24]) [3, 4, 5, 6, 7] 8 rfl rfl rfl) ?_
              refine TA.not 25 rfl (by kernel_rfl) rfl (PQ.then_ PQ.body) (Wt.no rfl rfl rfl hk429) (fun W hO => (hb349 _ _ (hb364 _ _ (hb383 _ _ hO))).selT (Ls := [Row k24 24 (.slice A3 y1.f2.length c4) y1.f2, Row k36 36 (.slice (some ⟨b14, 0, none⟩) 1 1) ([(⟨5, (⟨#[]⟩ : ByteArray), 0, ([] : List S36)⟩ : S36)] : List S36), Blk b34 [.int .i64 y29.1.f0, .int .i64 y29.1.f1, .slice A31 y29.1.f2.length c32] 24, Row k24 24 (.slice A31 y29.1.f2.length c32) y29.1.f2, Blk b28 [.int .i64 y23.1.f0, .int .i64 y23.1.f1, .slice A25 y23.1.f2.length c26] 24]) [3, 4, 5, 6, 7] 8 rfl rfl rfl) ?_
              refine TA.not 26 rfl (by kernel_rfl) rfl (PQ.then_ PQ.body) (Wt.no rfl rfl rfl hk429) (fun W hO => (hb349 _ _ (hb364 _ _ (hb383 _ _ hO))).selT (Ls := [Row k24 24 (.slice A3 y1.f2.length c4) y1.f2, Row k36 36 (.slice (some ⟨b14, 0, none⟩) 1 1) ([(⟨5, (⟨#[]⟩ : ByteArray), 0, ([] : List S36)⟩ : S36)] : List S36), Blk b34 [.int .i64 y29.1.f0, .int .i64 y29.1.f1, .slice A31 y29.1.f2.length c32] 24, Row k24 24 (.slice A31 y29.1.f2.length c32) y29.1.f2, Blk b28 [.int .i64 y23.1.f0, .int .i64 y23.1.f1, .slice A25 y23.1.f2.length c26] 24]) [3, 4, 5, 6, 7] 8 rfl rfl rfl) ?_
              refine TA.not 27 rfl (by kernel_rfl) rfl (PQ.then_ PQ.body) (Wt.no rfl rfl rfl hk429) (fun W hO => (hb349 _ _ (hb364 _ _ (hb383 _ _ hO))).selT (Ls := [Row k24 24 (.slice A3 y1.f2.length c4) y1.f2, Row k36 36 (.slice (some ⟨b14, 0, none⟩) 1 1) ([(⟨5, (⟨#[]⟩ : ByteArray), 0, ([] : List S36)⟩ : S36)] : List S36), Blk b34 [.int .i64 y29.1.f0, .int .i64 y29.1.f1, .slice A31 y29.1.f2.length c32] 24, Row k24 24 (.slice A31 y29.1.f2.length c32) y29.1.f2, Blk b28 [.int .i64 y23.1.f0, .int .i64 y23.1.f1, .slice A25 y23.1.f2.length c26] 24]) [3, 4, 5, 6, 7] 8 rfl rfl rfl) ?_
              refine TA.take 28 rfl (by kernel_rfl) rfl (PQ.then_ PQ.body) rfl (Val.pickN rfl hk429 rfl) (fun W hO => (hb349 _ _ (hb364 _ _ (hb383 _ _ hO))).selT (Ls := [Row k24 24 (.slice A3 y1.f2.length c4) y1.f2, Row k36 36 (.slice (some ⟨b14, 0, none⟩) 1 1) ([(⟨5, (⟨#[]⟩ : ByteArray), 0, ([] : List S36)⟩ : S36)] : List S36), Blk b34 [.int .i64 y29.1.f0, .int .i64 y29.1.f1, .slice A31 y29.1.f2.length c32] 24, Row k24 24 (.slice A31 y29.1.f2.length c32) y29.1.f2, Blk b28 [.int .i64 y23.1.f0, .int .i64 y23.1.f1, .slice A25 y23.1.f2.length c26] 24]) [3, 4, 5, 6, 7] 8 rfl rfl rfl) ?_
              refine TA.take 29 rfl (by kernel_rfl) rfl (PQ.then_ PQ.body) rfl (Val.move rfl) (fun W hO => (hb349 _ _ (hb364 _ _ (hb383 _ _ hO))).selT (Ls := [Row k24 24 (.slice A3 y1.f2.length c4) y1.f2, Row k36 36 (.slice (some ⟨b14, 0, none⟩) 1 1) ([(⟨5, (⟨#[]⟩ : ByteArray), 0, ([] : List S36)⟩ : S36)] : List S36), Blk b34 [.int .i64 y29.1.f0, .int .i64 y29.1.f1, .slice A31 y29.1.f2.length c32] 24, Row k24 24 (.slice A31 y29.1.f2.length c32) y29.1.f2, Blk b28 [.int .i64 y23.1.f0, .int .i64 y23.1.f1, .slice A25 y23.1.f2.length c26] 24]) [3, 4, 5, 6, 7] 8 rfl rfl rfl) ?_
              refine TA.not 30 rfl (by kernel_rfl) rfl (PQ.then_ PQ.body) (Wt.no rfl rfl rfl rfl) (fun W hO => (hb349 _ _ (hb364 _ _ (hb383 _ _ hO))).selT (Ls := [Row k24 24 (.slice A3 y1.f2.length c4) y1.f2, Row k36 36 (.slice (some ⟨b14, 0, none⟩) 1 1) ([(⟨5, (⟨#[]⟩ : ByteArray), 0, ([] : List S36)⟩ : S36)] : List S36), Blk b34 [.int .i64 y29.1.f0, .int .i64 y29.1.f1, .slice A31 y29.1.f2.length c32] 24, Row k24 24 (.slice A31 y29.1.f2.length c32) y29.1.f2, Blk b28 [.int .i64 y23.1.f0, .int .i64 y23.1.f1, .slice A25 y23.1.f2.length c26] 24]) [3, 4, 5, 6, 7] 8 rfl rfl rfl) ?_
              refine TA.not 31 rfl (by kernel_rfl) rfl (PQ.then_ PQ.body) (Wt.no rfl rfl rfl rfl) (fun W hO => (hb349 _ _ (hb364 _ _ (hb383 _ _ hO))).selT (Ls := [Row k24 24 (.slice A3 y1.f2.length c4) y1.f2, Row k36 36 (.slice (some ⟨b14, 0, none⟩) 1 1) ([(⟨5, (⟨#[]⟩ : ByteArray), 0, ([] : List S36)⟩ : S36)] : List S36), Blk b34 [.int .i64 y29.1.f0, .int .i64 y29.1.f1, .slice A31 y29.1.f2.length c32] 24, Row k24 24 (.slice A31 y29.1.f2.length c32) y29.1.f2, Blk b28 [.int .i64 y23.1.f0, .int .i64 y23.1.f1, .slice A25 y23.1.f2.length c26] 24]) [3, 4, 5, 6, 7] 8 rfl rfl rfl) ?_
              refine TA.take 32 rfl (by kernel_rfl) rfl (PQ.then_ PQ.body) rfl (Val.pickN rfl rfl rfl) (fun W hO => (hb349 _ _ (hb364 _ _ (hb383 _ _ hO))).selT (Ls := [Row k24 24 (.slice A3 y1.f2.length c4) y1.f2, Row k36 36 (.slice (some ⟨b14, 0, none⟩) 1 1) ([(⟨5, (⟨#[]⟩ : ByteArray), 0, ([] : List S36)⟩ : S36)] : List S36), Blk b34 [.int .i64 y29.1.f0, .int .i64 y29.1.f1, .slice A31 y29.1.f2.length c32] 24, Row k24 24 (.slice A31 y29.1.f2.length c32) y29.1.f2, Blk b28 [.int .i64 y23.1.f0, .int .i64 y23.1.f1, .slice A25 y23.1.f2.length c26] 24]) [3, 4, 5, 6, 7] 8 rfl rfl rfl) ?_
              refine TA.take 33 rfl (by kernel_rfl) rfl (PQ.then_ PQ.body) rfl (Val.move rfl) (fun W hO => (hb349 _ _ (hb364 _ _ (hb383 _ _ hO))).selT (Ls := [Row k24 24 (.slice A3 y1.f2.length c4) y1.f2, Row k36 36 (.slice (some ⟨b14, 0, none⟩) 1 1) ([(⟨5, (⟨#[]⟩ : ByteArray), 0, ([] : List S36)⟩ : S36)] : List S36), Blk b34 [.int .i64 y29.1.f0, .int .i64 y29.1.f1, .slice A31 y29.1.f2.length c32] 24, Row k24 24 (.slice A31 y29.1.f2.length c32) y29.1.f2, Blk b28 [.int .i64 y23.1.f0, .int .i64 y23.1.f1, .slice A25 y23.1.f2.length c26] 24]) [3, 4, 5, 6, 7] 8 rfl rfl rfl) ?_
              refine TA.not 34 rfl (by kernel_rfl) rfl (PQ.then_ PQ.body) (Wt.no rfl rfl rfl rfl) (fun W hO => (hb349 _ _ (hb364 _ _ (hb383 _ _ hO))).selT (Ls := [Row k24 24 (.slice A3 y1.f2.length c4) y1.f2, Row k36 36 (.slice (some ⟨b14, 0, none⟩) 1 1) ([(⟨5, (⟨#[]⟩ : ByteArray), 0, ([] : List S36)⟩ : S36)] : List S36), Blk b34 [.int .i64 y29.1.f0, .int .i64 y29.1.f1, .slice A31 y29.1.f2.length c32] 24, Row k24 24 (.slice A31 y29.1.f2.length c32) y29.1.f2, Blk b28 [.int .i64 y23.1.f0, .int .i64 y23.1.f1, .slice A25 y23.1.f2.length c26] 24]) [3, 4, 5, 6, 7] 8 rfl rfl rfl) ?_
              refine TA.not 35 rfl (by kernel_rfl) rfl (PQ.then_ PQ.body) (Wt.no rfl rfl rfl rfl) (fun W hO => (hb349 _ _ (hb364 _ _ (hb383 _ _ hO))).selT (Ls := [Row k24 24 (.slice A3 y1.f2.length c4) y1.f2, Row k36 36 (.slice (some ⟨b14, 0, none⟩) 1 1) ([(⟨5, (⟨#[]⟩ : ByteArray), 0, ([] : List S36)⟩ : S36)] : List S36), Blk b34 [.int .i64 y29.1.f0, .int .i64 y29.1.f1, .slice A31 y29.1.f2.length c32] 24, Row k24 24 (.slice A31 y29.1.f2.length c32) y29.1.f2, Blk b28 [.int .i64 y23.1.f0, .int .i64 y23.1.f1, .slice A25 y23.1.f2.length c26] 24]) [3, 4, 5, 6, 7] 8 rfl rfl rfl) ?_
              refine TA.take 36 rfl (by kernel_rfl) rfl (PQ.then_ PQ.body) rfl (Val.pickN rfl rfl rfl) (fun W hO => (hb349 _ _ (hb364 _ _ (hb383 _ _ hO))).selT (Ls := [Row k24 24 (.slice A3 y1.f2.length c4) y1.f2, Row k36 36 (.slice (some ⟨b14, 0, none⟩) 1 1) ([(⟨5, (⟨#[]⟩ : ByteArray), 0, ([] : List S36)⟩ : S36)] : List S36), Blk b34 [.int .i64 y29.1.f0, .int .i64 y29.1.f1, .slice A31 y29.1.f2.length c32] 24, Row k24 24 (.slice A31 y29.1.f2.length c32) y29.1.f2, Blk b28 [.int .i64 y23.1.f0, .int .i64 y23.1.f1, .slice A25 y23.1.f2.length c26] 24]) [3, 4, 5, 6, 7] 8 rfl rfl rfl) ?_
              refine TA.take 37 rfl (by kernel_rfl) rfl (PQ.then_ PQ.body) rfl (Val.move rfl) (fun W hO => (hb349 _ _ (hb364 _ _ (hb383 _ _ hO))).selT (Ls := [Row k24 24 (.slice A3 y1.f2.length c4) y1.f2, Row k36 36 (.slice (some ⟨b14, 0, none⟩) 1 1) ([(⟨5, (⟨#[]⟩ : ByteArray), 0, ([] : List S36)⟩ : S36)] : List S36), Blk b34 [.int .i64 y29.1.f0, .int .i64 y29.1.f1, .slice A31 y29.1.f2.length c32] 24, Row k24 24 (.slice A31 y29.1.f2.length c32) y29.1.f2, Blk b28 [.int .i64 y23.1.f0, .int .i64 y23.1.f1, .slice A25 y23.1.f2.length c26] 24]) [3, 4, 5, 6, 7] 8 rfl rfl rfl) ?_
              refine TA.not 38 rfl (by kernel_rfl) rfl (PQ.then_ PQ.body) (Wt.no rfl rfl rfl rfl) (fun W hO => (hb349 _ _ (hb364 _ _ (hb383 _ _ hO))).selT (Ls := [Row k24 24 (.slice A3 y1.f2.length c4) y1.f2, Row k36 36 (.slice (some ⟨b14, 0, none⟩) 1 1) ([(⟨5, (⟨#[]⟩ : ByteArray), 0, ([] : List S36)⟩ : S36)] : List S36), Blk b34 [.int .i64 y29.1.f0, .int .i64 y29.1.f1, .slice A31 y29.1.f2.length c32] 24, Row k24 24 (.slice A31 y29.1.f2.length c32) y29.1.f2, Blk b28 [.int .i64 y23.1.f0, .int .i64 y23.1.f1, .slice A25 y23.1.f2.length c26] 24]) [3, 4, 5, 6, 7] 8 rfl rfl rfl) ?_
              refine TA.not 39 rfl (by kernel_rfl) rfl (PQ.then_ PQ.body) (Wt.no rfl rfl rfl rfl) (fun W hO => (hb349 _ _ (hb364 _ _ (hb383 _ _ hO))).selT (Ls := [Row k24 24 (.slice A3 y1.f2.length c4) y1.f2, Row k36 36 (.slice (some ⟨b14, 0, none⟩) 1 1) ([(⟨5, (⟨#[]⟩ : ByteArray), 0, ([] : List S36)⟩ : S36)] : List S36), Blk b34 [.int .i64 y29.1.f0, .int .i64 y29.1.f1, .slice A31 y29.1.f2.length c32] 24, Row k24 24 (.slice A31 y29.1.f2.length c32) y29.1.f2, Blk b28 [.int .i64 y23.1.f0, .int .i64 y23.1.f1, .slice A25 y23.1.f2.length c26] 24]) [3, 4, 5, 6, 7] 8 rfl rfl rfl) ?_
              refine TA.not 40 rfl (by kernel_rfl) rfl (PQ.then_ PQ.body) (Wt.no rfl rfl rfl rfl) (fun W hO => (hb349 _ _ (hb364 _ _ (hb383 _ _ hO))).selT (Ls := [Row k24 24 (.slice A3 y1.f2.length c4) y1.f2, Row k36 36 (.slice (some ⟨b14, 0, none⟩) 1 1) ([(⟨5, (⟨#[]⟩ : ByteArray), 0, ([] : List S36)⟩ : S36)] : List S36), Blk b34 [.int .i64 y29.1.f0, .int .i64 y29.1.f1, .slice A31 y29.1.f2.length c32] 24, Row k24 24 (.slice A31 y29.1.f2.length c32) y29.1.f2, Blk b28 [.int .i64 y23.1.f0, .int .i64 y23.1.f1, .slice A25 y23.1.f2.length c26] 24]) [3, 4, 5, 6, 7] 8 rfl rfl rfl) ?_
              refine TA.take 41 rfl (by kernel_rfl) rfl (PQ.then_ PQ.body) rfl (Val.pickN rfl rfl rfl) (fun W hO => (hb349 _ _ (hb364 _ _ (hb383 _ _ hO))).selT (Ls := [Row k24 24 (.slice A3 y1.f2.length c4) y1.f2, Row k36 36 (.slice (some ⟨b14, 0, none⟩) 1 1) ([(⟨5, (⟨#[]⟩ : ByteArray), 0, ([] : List S36)⟩ : S36)] : List S36), Blk b34 [.int .i64 y29.1.f0, .int .i64 y29.1.f1, .slice A31 y29.1.f2.length c32] 24, Row k24 24 (.slice A31 y29.1.f2.length c32) y29.1.f2, Blk b28 [.int .i64 y23.1.f0, .int .i64 y23.1.f1, .slice A25 y23.1.f2.length c26] 24]) [3, 4, 5, 6, 7] 8 rfl rfl rfl) ?_
              refine TA.take 42 rfl (by kernel_rfl) rfl (PQ.then_ PQ.body) rfl (Val.assign rfl) (fun W hO => (hb349 _ _ (hb364 _ _ (hb383 _ _ hO))).selT (Ls := [Row k24 24 (.slice A3 y1.f2.length c4) y1.f2, Row k36 36 (.slice (some ⟨b14, 0, none⟩) 1 1) ([(⟨5, (⟨#[]⟩ : ByteArray), 0, ([] : List S36)⟩ : S36)] : List S36), Blk b34 [.int .i64 y29.1.f0, .int .i64 y29.1.f1, .slice A31 y29.1.f2.length c32] 24, Row k24 24 (.slice A31 y29.1.f2.length c32) y29.1.f2, Blk b28 [.int .i64 y23.1.f0, .int .i64 y23.1.f1, .slice A25 y23.1.f2.length c26] 24]) [3, 4, 5, 6, 7] 8 rfl rfl rfl) ?_
              refine TA.done (by kernel_rfl) ?_
              refine TQ.then_ ?_
              refine TC.ret ?_
              refine TQ.back hb383 ?_
              refine TQ.back hb364 ?_
              refine TQ.back hb349 ?_
              refine TQ.back hb338 ?_
              obtain rfl := Option.some.inj h
              exact TQ.fin (.inl rfl) rfl Tryd.results7 (.tmp rfl .nil) rfl (FRel.mk (Ls := []) [] 9 (Gd.le.refl _) rfl rfl rfl ⟨rfl, rfl, rfl⟩)
          · have hk430 : (y386.data.toList == (⟨#[40, 105, 110, 116, 44, 91, 51, 93, 42, 105, 110, 116, 44, 105, 110, 116, 41]⟩ : ByteArray).data.toList) = false := (by simpa using hg388)
            refine TA.not 20 rfl (by kernel_rfl) rfl (PQ.then_ PQ.body) (Wt.no rfl rfl rfl hk430) (fun W hO => (hb349 _ _ (hb364 _ _ (hb383 _ _ hO))).selT (Ls := [Row k24 24 (.slice A3 y1.f2.length c4) y1.f2, Row k36 36 (.slice (some ⟨b14, 0, none⟩) 1 1) ([(⟨5, (⟨#[]⟩ : ByteArray), 0, ([] : List S36)⟩ : S36)] : List S36), Blk b34 [.int .i64 y29.1.f0, .int .i64 y29.1.f1, .slice A31 y29.1.f2.length c32] 24, Row k24 24 (.slice A31 y29.1.f2.length c32) y29.1.f2, Blk b28 [.int .i64 y23.1.f0, .int .i64 y23.1.f1, .slice A25 y23.1.f2.length c26] 24]) [3, 4, 5, 6, 7] 8 rfl rfl rfl) ?_
            refine TA.not 21 rfl (by kernel_rfl) rfl (PQ.then_ PQ.body) (Wt.no rfl rfl rfl hk430) (fun W hO => (hb349 _ _ (hb364 _ _ (hb383 _ _ hO))).selT (Ls := [Row k24 24 (.slice A3 y1.f2.length c4) y1.f2, Row k36 36 (.slice (some ⟨b14, 0, none⟩) 1 1) ([(⟨5, (⟨#[]⟩ : ByteArray), 0, ([] : List S36)⟩ : S36)] : List S36), Blk b34 [.int .i64 y29.1.f0, .int .i64 y29.1.f1, .slice A31 y29.1.f2.length c32] 24, Row k24 24 (.slice A31 y29.1.f2.length c32) y29.1.f2, Blk b28 [.int .i64 y23.1.f0, .int .i64 y23.1.f1, .slice A25 y23.1.f2.length c26] 24]) [3, 4, 5, 6, 7] 8 rfl rfl rfl) ?_
            refine TA.take 22 rfl (by kernel_rfl) rfl (PQ.then_ PQ.body) rfl (Val.pickN rfl hk430 rfl) (fun W hO => (hb349 _ _ (hb364 _ _ (hb383 _ _ hO))).selT (Ls := [Row k24 24 (.slice A3 y1.f2.length c4) y1.f2, Row k36 36 (.slice (some ⟨b14, 0, none⟩) 1 1) ([(⟨5, (⟨#[]⟩ : ByteArray), 0, ([] : List S36)⟩ : S36)] : List S36), Blk b34 [.int .i64 y29.1.f0, .int .i64 y29.1.f1, .slice A31 y29.1.f2.length c32] 24, Row k24 24 (.slice A31 y29.1.f2.length c32) y29.1.f2, Blk b28 [.int .i64 y23.1.f0, .int .i64 y23.1.f1, .slice A25 y23.1.f2.length c26] 24]) [3, 4, 5, 6, 7] 8 rfl rfl rfl) ?_
            refine TA.take 23 rfl (by kernel_rfl) rfl (PQ.then_ PQ.body) rfl (Val.move rfl) (fun W hO => (hb349 _ _ (hb364 _ _ (hb383 _ _ hO))).selT (Ls := [Row k24 24 (.slice A3 y1.f2.length c4) y1.f2, Row k36 36 (.slice (some ⟨b14, 0, none⟩) 1 1) ([(⟨5, (⟨#[]⟩ : ByteArray), 0, ([] : List S36)⟩ : S36)] : List S36), Blk b34 [.int .i64 y29.1.f0, .int .i64 y29.1.f1, .slice A31 y29.1.f2.length c32] 24, Row k24 24 (.slice A31 y29.1.f2.length c32) y29.1.f2, Blk b28 [.int .i64 y23.1.f0, .int .i64 y23.1.f1, .slice A25 y23.1.f2.length c26] 24]) [3, 4, 5, 6, 7] 8 rfl rfl rfl) ?_
            refine TA.not 24 rfl (by kernel_rfl) rfl (PQ.then_ PQ.body) (Wt.no rfl rfl rfl rfl) (fun W hO => (hb349 _ _ (hb364 _ _ (hb383 _ _ hO))).selT (Ls := [Row k24 24 (.slice A3 y1.f2.length c4) y1.f2, Row k36 36 (.slice (some ⟨b14, 0, none⟩) 1 1) ([(⟨5, (⟨#[]⟩ : ByteArray), 0, ([] : List S36)⟩ : S36)] : List S36), Blk b34 [.int .i64 y29.1.f0, .int .i64 y29.1.f1, .slice A31 y29.1.f2.length c32] 24, Row k24 24 (.slice A31 y29.1.f2.length c32) y29.1.f2, Blk b28 [.int .i64 y23.1.f0, .int .i64 y23.1.f1, .slice A25 y23.1.f2.length c26] 24]) [3, 4, 5, 6, 7] 8 rfl rfl rfl) ?_
            refine TA.not 25 rfl (by kernel_rfl) rfl (PQ.then_ PQ.body) (Wt.no rfl rfl rfl rfl) (fun W hO => (hb349 _ _ (hb364 _ _ (hb383 _ _ hO))).selT (Ls := [Row k24 24 (.slice A3 y1.f2.length c4) y1.f2, Row k36 36 (.slice (some ⟨b14, 0, none⟩) 1 1) ([(⟨5, (⟨#[]⟩ : ByteArray), 0, ([] : List S36)⟩ : S36)] : List S36), Blk b34 [.int .i64 y29.1.f0, .int .i64 y29.1.f1, .slice A31 y29.1.f2.length c32] 24, Row k24 24 (.slice A31 y29.1.f2.length c32) y29.1.f2, Blk b28 [.int .i64 y23.1.f0, .int .i64 y23.1.f1, .slice A25 y23.1.f2.length c26] 24]) [3, 4, 5, 6, 7] 8 rfl rfl rfl) ?_
            refine TA.not 26 rfl (by kernel_rfl) rfl (PQ.then_ PQ.body) (Wt.no rfl rfl rfl rfl) (fun W hO => (hb349 _ _ (hb364 _ _ (hb383 _ _ hO))).selT (Ls := [Row k24 24 (.slice A3 y1.f2.length c4) y1.f2, Row k36 36 (.slice (some ⟨b14, 0, none⟩) 1 1) ([(⟨5, (⟨#[]⟩ : ByteArray), 0, ([] : List S36)⟩ : S36)] : List S36), Blk b34 [.int .i64 y29.1.f0, .int .i64 y29.1.f1, .slice A31 y29.1.f2.length c32] 24, Row k24 24 (.slice A31 y29.1.f2.length c32) y29.1.f2, Blk b28 [.int .i64 y23.1.f0, .int .i64 y23.1.f1, .slice A25 y23.1.f2.length c26] 24]) [3, 4, 5, 6, 7] 8 rfl rfl rfl) ?_
            refine TA.not 27 rfl (by kernel_rfl) rfl (PQ.then_ PQ.body) (Wt.no rfl rfl rfl rfl) (fun W hO => (hb349 _ _ (hb364 _ _ (hb383 _ _ hO))).selT (Ls := [Row k24 24 (.slice A3 y1.f2.length c4) y1.f2, Row k36 36 (.slice (some ⟨b14, 0, none⟩) 1 1) ([(⟨5, (⟨#[]⟩ : ByteArray), 0, ([] : List S36)⟩ : S36)] : List S36), Blk b34 [.int .i64 y29.1.f0, .int .i64 y29.1.f1, .slice A31 y29.1.f2.length c32] 24, Row k24 24 (.slice A31 y29.1.f2.length c32) y29.1.f2, Blk b28 [.int .i64 y23.1.f0, .int .i64 y23.1.f1, .slice A25 y23.1.f2.length c26] 24]) [3, 4, 5, 6, 7] 8 rfl rfl rfl) ?_
            refine TA.take 28 rfl (by kernel_rfl) rfl (PQ.then_ PQ.body) rfl (Val.pickN rfl rfl rfl) (fun W hO => (hb349 _ _ (hb364 _ _ (hb383 _ _ hO))).selT (Ls := [Row k24 24 (.slice A3 y1.f2.length c4) y1.f2, Row k36 36 (.slice (some ⟨b14, 0, none⟩) 1 1) ([(⟨5, (⟨#[]⟩ : ByteArray), 0, ([] : List S36)⟩ : S36)] : List S36), Blk b34 [.int .i64 y29.1.f0, .int .i64 y29.1.f1, .slice A31 y29.1.f2.length c32] 24, Row k24 24 (.slice A31 y29.1.f2.length c32) y29.1.f2, Blk b28 [.int .i64 y23.1.f0, .int .i64 y23.1.f1, .slice A25 y23.1.f2.length c26] 24]) [3, 4, 5, 6, 7] 8 rfl rfl rfl) ?_
            refine TA.take 29 rfl (by kernel_rfl) rfl (PQ.then_ PQ.body) rfl (Val.move rfl) (fun W hO => (hb349 _ _ (hb364 _ _ (hb383 _ _ hO))).selT (Ls := [Row k24 24 (.slice A3 y1.f2.length c4) y1.f2, Row k36 36 (.slice (some ⟨b14, 0, none⟩) 1 1) ([(⟨5, (⟨#[]⟩ : ByteArray), 0, ([] : List S36)⟩ : S36)] : List S36), Blk b34 [.int .i64 y29.1.f0, .int .i64 y29.1.f1, .slice A31 y29.1.f2.length c32] 24, Row k24 24 (.slice A31 y29.1.f2.length c32) y29.1.f2, Blk b28 [.int .i64 y23.1.f0, .int .i64 y23.1.f1, .slice A25 y23.1.f2.length c26] 24]) [3, 4, 5, 6, 7] 8 rfl rfl rfl) ?_
            refine TA.not 30 rfl (by kernel_rfl) rfl (PQ.then_ PQ.body) (Wt.no rfl rfl rfl rfl) (fun W hO => (hb349 _ _ (hb364 _ _ (hb383 _ _ hO))).selT (Ls := [Row k24 24 (.slice A3 y1.f2.length c4) y1.f2, Row k36 36 (.slice (some ⟨b14, 0, none⟩) 1 1) ([(⟨5, (⟨#[]⟩ : ByteArray), 0, ([] : List S36)⟩ : S36)] : List S36), Blk b34 [.int .i64 y29.1.f0, .int .i64 y29.1.f1, .slice A31 y29.1.f2.length c32] 24, Row k24 24 (.slice A31 y29.1.f2.length c32) y29.1.f2, Blk b28 [.int .i64 y23.1.f0, .int .i64 y23.1.f1, .slice A25 y23.1.f2.length c26] 24]) [3, 4, 5, 6, 7] 8 rfl rfl rfl) ?_
            refine TA.not 31 rfl (by kernel_rfl) rfl (PQ.then_ PQ.body) (Wt.no rfl rfl rfl rfl) (fun W hO => (hb349 _ _ (hb364 _ _ (hb383 _ _ hO))).selT (Ls := [Row k24 24 (.slice A3 y1.f2.length c4) y1.f2, Row k36 36 (.slice (some ⟨b14, 0, none⟩) 1 1) ([(⟨5, (⟨#[]⟩ : ByteArray), 0, ([] : List S36)⟩ : S36)] : List S36), Blk b34 [.int .i64 y29.1.f0, .int .i64 y29.1.f1, .slice A31 y29.1.f2.length c32] 24, Row k24 24 (.slice A31 y29.1.f2.length c32) y29.1.f2, Blk b28 [.int .i64 y23.1.f0, .int .i64 y23.1.f1, .slice A25 y23.1.f2.length c26] 24]) [3, 4, 5, 6, 7] 8 rfl rfl rfl) ?_
            refine TA.take 32 rfl (by kernel_rfl) rfl (PQ.then_ PQ.body) rfl (Val.pickN rfl rfl rfl) (fun W hO => (hb349 _ _ (hb364 _ _ (hb383 _ _ hO))).selT (Ls := [Row k24 24 (.slice A3 y1.f2.length c4) y1.f2, Row k36 36 (.slice (some ⟨b14, 0, none⟩) 1 1) ([(⟨5, (⟨#[]⟩ : ByteArray), 0, ([] : List S36)⟩ : S36)] : List S36), Blk b34 [.int .i64 y29.1.f0, .int .i64 y29.1.f1, .slice A31 y29.1.f2.length c32] 24, Row k24 24 (.slice A31 y29.1.f2.length c32) y29.1.f2, Blk b28 [.int .i64 y23.1.f0, .int .i64 y23.1.f1, .slice A25 y23.1.f2.length c26] 24]) [3, 4, 5, 6, 7] 8 rfl rfl rfl) ?_
            refine TA.take 33 rfl (by kernel_rfl) rfl (PQ.then_ PQ.body) rfl (Val.move rfl) (fun W hO => (hb349 _ _ (hb364 _ _ (hb383 _ _ hO))).selT (Ls := [Row k24 24 (.slice A3 y1.f2.length c4) y1.f2, Row k36 36 (.slice (some ⟨b14, 0, none⟩) 1 1) ([(⟨5, (⟨#[]⟩ : ByteArray), 0, ([] : List S36)⟩ : S36)] : List S36), Blk b34 [.int .i64 y29.1.f0, .int .i64 y29.1.f1, .slice A31 y29.1.f2.length c32] 24, Row k24 24 (.slice A31 y29.1.f2.length c32) y29.1.f2, Blk b28 [.int .i64 y23.1.f0, .int .i64 y23.1.f1, .slice A25 y23.1.f2.length c26] 24]) [3, 4, 5, 6, 7] 8 rfl rfl rfl) ?_
            refine TA.not 34 rfl (by kernel_rfl) rfl (PQ.then_ PQ.body) (Wt.no rfl rfl rfl rfl) (fun W hO => (hb349 _ _ (hb364 _ _ (hb383 _ _ hO))).selT (Ls := [Row k24 24 (.slice A3 y1.f2.length c4) y1.f2, Row k36 36 (.slice (some ⟨b14, 0, none⟩) 1 1) ([(⟨5, (⟨#[]⟩ : ByteArray), 0, ([] : List S36)⟩ : S36)] : List S36), Blk b34 [.int .i64 y29.1.f0, .int .i64 y29.1.f1, .slice A31 y29.1.f2.length c32] 24, Row k24 24 (.slice A31 y29.1.f2.length c32) y29.1.f2, Blk b28 [.int .i64 y23.1.f0, .int .i64 y23.1.f1, .slice A25 y23.1.f2.length c26] 24]) [3, 4, 5, 6, 7] 8 rfl rfl rfl) ?_
            refine TA.not 35 rfl (by kernel_rfl) rfl (PQ.then_ PQ.body) (Wt.no rfl rfl rfl rfl) (fun W hO => (hb349 _ _ (hb364 _ _ (hb383 _ _ hO))).selT (Ls := [Row k24 24 (.slice A3 y1.f2.length c4) y1.f2, Row k36 36 (.slice (some ⟨b14, 0, none⟩) 1 1) ([(⟨5, (⟨#[]⟩ : ByteArray), 0, ([] : List S36)⟩ : S36)] : List S36), Blk b34 [.int .i64 y29.1.f0, .int .i64 y29.1.f1, .slice A31 y29.1.f2.length c32] 24, Row k24 24 (.slice A31 y29.1.f2.length c32) y29.1.f2, Blk b28 [.int .i64 y23.1.f0, .int .i64 y23.1.f1, .slice A25 y23.1.f2.length c26] 24]) [3, 4, 5, 6, 7] 8 rfl rfl rfl) ?_
            refine TA.take 36 rfl (by kernel_rfl) rfl (PQ.then_ PQ.body) rfl (Val.pickN rfl rfl rfl) (fun W hO => (hb349 _ _ (hb364 _ _ (hb383 _ _ hO))).selT (Ls := [Row k24 24 (.slice A3 y1.f2.length c4) y1.f2, Row k36 36 (.slice (some ⟨b14, 0, none⟩) 1 1) ([(⟨5, (⟨#[]⟩ : ByteArray), 0, ([] : List S36)⟩ : S36)] : List S36), Blk b34 [.int .i64 y29.1.f0, .int .i64 y29.1.f1, .slice A31 y29.1.f2.length c32] 24, Row k24 24 (.slice A31 y29.1.f2.length c32) y29.1.f2, Blk b28 [.int .i64 y23.1.f0, .int .i64 y23.1.f1, .slice A25 y23.1.f2.length c26] 24]) [3, 4, 5, 6, 7] 8 rfl rfl rfl) ?_
            refine TA.take 37 rfl (by kernel_rfl) rfl (PQ.then_ PQ.body) rfl (Val.move rfl) (fun W hO => (hb349 _ _ (hb364 _ _ (hb383 _ _ hO))).selT (Ls := [Row k24 24 (.slice A3 y1.f2.length c4) y1.f2, Row k36 36 (.slice (some ⟨b14, 0, none⟩) 1 1) ([(⟨5, (⟨#[]⟩ : ByteArray), 0, ([] : List S36)⟩ : S36)] : List S36), Blk b34 [.int .i64 y29.1.f0, .int .i64 y29.1.f1, .slice A31 y29.1.f2.length c32] 24, Row k24 24 (.slice A31 y29.1.f2.length c32) y29.1.f2, Blk b28 [.int .i64 y23.1.f0, .int .i64 y23.1.f1, .slice A25 y23.1.f2.length c26] 24]) [3, 4, 5, 6, 7] 8 rfl rfl rfl) ?_
            refine TA.not 38 rfl (by kernel_rfl) rfl (PQ.then_ PQ.body) (Wt.no rfl rfl rfl rfl) (fun W hO => (hb349 _ _ (hb364 _ _ (hb383 _ _ hO))).selT (Ls := [Row k24 24 (.slice A3 y1.f2.length c4) y1.f2, Row k36 36 (.slice (some ⟨b14, 0, none⟩) 1 1) ([(⟨5, (⟨#[]⟩ : ByteArray), 0, ([] : List S36)⟩ : S36)] : List S36), Blk b34 [.int .i64 y29.1.f0, .int .i64 y29.1.f1, .slice A31 y29.1.f2.length c32] 24, Row k24 24 (.slice A31 y29.1.f2.length c32) y29.1.f2, Blk b28 [.int .i64 y23.1.f0, .int .i64 y23.1.f1, .slice A25 y23.1.f2.length c26] 24]) [3, 4, 5, 6, 7] 8 rfl rfl rfl) ?_
            refine TA.not 39 rfl (by kernel_rfl) rfl (PQ.then_ PQ.body) (Wt.no rfl rfl rfl rfl) (fun W hO => (hb349 _ _ (hb364 _ _ (hb383 _ _ hO))).selT (Ls := [Row k24 24 (.slice A3 y1.f2.length c4) y1.f2, Row k36 36 (.slice (some ⟨b14, 0, none⟩) 1 1) ([(⟨5, (⟨#[]⟩ : ByteArray), 0, ([] : List S36)⟩ : S36)] : List S36), Blk b34 [.int .i64 y29.1.f0, .int .i64 y29.1.f1, .slice A31 y29.1.f2.length c32] 24, Row k24 24 (.slice A31 y29.1.f2.length c32) y29.1.f2, Blk b28 [.int .i64 y23.1.f0, .int .i64 y23.1.f1, .slice A25 y23.1.f2.length c26] 24]) [3, 4, 5, 6, 7] 8 rfl rfl rfl) ?_
            refine TA.not 40 rfl (by kernel_rfl) rfl (PQ.then_ PQ.body) (Wt.no rfl rfl rfl rfl) (fun W hO => (hb349 _ _ (hb364 _ _ (hb383 _ _ hO))).selT (Ls := [Row k24 24 (.slice A3 y1.f2.length c4) y1.f2, Row k36 36 (.slice (some ⟨b14, 0, none⟩) 1 1) ([(⟨5, (⟨#[]⟩ : ByteArray), 0, ([] : List S36)⟩ : S36)] : List S36), Blk b34 [.int .i64 y29.1.f0, .int .i64 y29.1.f1, .slice A31 y29.1.f2.length c32] 24, Row k24 24 (.slice A31 y29.1.f2.length c32) y29.1.f2, Blk b28 [.int .i64 y23.1.f0, .int .i64 y23.1.f1, .slice A25 y23.1.f2.length c26] 24]) [3, 4, 5, 6, 7] 8 rfl rfl rfl) ?_
            refine TA.take 41 rfl (by kernel_rfl) rfl (PQ.then_ PQ.body) rfl (Val.pickN rfl rfl rfl) (fun W hO => (hb349 _ _ (hb364 _ _ (hb383 _ _ hO))).selT (Ls := [Row k24 24 (.slice A3 y1.f2.length c4) y1.f2, Row k36 36 (.slice (some ⟨b14, 0, none⟩) 1 1) ([(⟨5, (⟨#[]⟩ : ByteArray), 0, ([] : List S36)⟩ : S36)] : List S36), Blk b34 [.int .i64 y29.1.f0, .int .i64 y29.1.f1, .slice A31 y29.1.f2.length c32] 24, Row k24 24 (.slice A31 y29.1.f2.length c32) y29.1.f2, Blk b28 [.int .i64 y23.1.f0, .int .i64 y23.1.f1, .slice A25 y23.1.f2.length c26] 24]) [3, 4, 5, 6, 7] 8 rfl rfl rfl) ?_
            refine TA.take 42 rfl (by kernel_rfl) rfl (PQ.then_ PQ.body) rfl (Val.assign rfl) (fun W hO => (hb349 _ _ (hb364 _ _ (hb383 _ _ hO))).selT (Ls := [Row k24 24 (.slice A3 y1.f2.length c4) y1.f2, Row k36 36 (.slice (some ⟨b14, 0, none⟩) 1 1) ([(⟨5, (⟨#[]⟩ : ByteArray), 0, ([] : List S36)⟩ : S36)] : List S36), Blk b34 [.int .i64 y29.1.f0, .int .i64 y29.1.f1, .slice A31 y29.1.f2.length c32] 24, Row k24 24 (.slice A31 y29.1.f2.length c32) y29.1.f2, Blk b28 [.int .i64 y23.1.f0, .int .i64 y23.1.f1, .slice A25 y23.1.f2.length c26] 24]) [3, 4, 5, 6, 7] 8 rfl rfl rfl) ?_
            refine TA.done (by kernel_rfl) ?_
            refine TQ.then_ ?_
            refine TC.ret ?_
            refine TQ.back hb383 ?_
            refine TQ.back hb364 ?_
            refine TQ.back hb349 ?_
            refine TQ.back hb338 ?_
            obtain rfl := Option.some.inj h
            exact TQ.fin (.inl rfl) rfl Tryd.results7 (.tmp rfl .nil) rfl (FRel.mk (Ls := []) [] 9 (Gd.le.refl _) rfl rfl rfl ⟨rfl, rfl, rfl⟩)
        · have hk431 : y12.2 = false := (by simpa using hg373)
          refine TA.not 15 rfl (by kernel_rfl) rfl (PQ.then_ PQ.body) (Wt.no rfl rfl rfl hk431) (fun W hO => (hb349 _ _ (hb364 _ _ hO)).selT (Ls := [Row k24 24 (.slice A3 y1.f2.length c4) y1.f2, Row k36 36 (.slice (some ⟨b14, 0, none⟩) 1 1) ([(⟨5, (⟨#[]⟩ : ByteArray), 0, ([] : List S36)⟩ : S36)] : List S36), Blk b34 [.int .i64 y29.1.f0, .int .i64 y29.1.f1, .slice A31 y29.1.f2.length c32] 24, Row k24 24 (.slice A31 y29.1.f2.length c32) y29.1.f2, Blk b28 [.int .i64 y23.1.f0, .int .i64 y23.1.f1, .slice A25 y23.1.f2.length c26] 24]) [2, 3, 4, 5, 6] 7 rfl rfl rfl) ?_
          refine TA.not 16 rfl (by kernel_rfl) rfl (PQ.then_ PQ.body) (Wt.no rfl rfl rfl hk431) (fun W hO => (hb349 _ _ (hb364 _ _ hO)).selT (Ls := [Row k24 24 (.slice A3 y1.f2.length c4) y1.f2, Row k36 36 (.slice (some ⟨b14, 0, none⟩) 1 1) ([(⟨5, (⟨#[]⟩ : ByteArray), 0, ([] : List S36)⟩ : S36)] : List S36), Blk b34 [.int .i64 y29.1.f0, .int .i64 y29.1.f1, .slice A31 y29.1.f2.length c32] 24, Row k24 24 (.slice A31 y29.1.f2.length c32) y29.1.f2, Blk b28 [.int .i64 y23.1.f0, .int .i64 y23.1.f1, .slice A25 y23.1.f2.length c26] 24]) [2, 3, 4, 5, 6] 7 rfl rfl rfl) ?_
          refine TA.not 17 rfl (by kernel_rfl) rfl (PQ.then_ PQ.body) (Wt.no rfl rfl rfl hk431) (fun W hO => (hb349 _ _ (hb364 _ _ hO)).selT (Ls := [Row k24 24 (.slice A3 y1.f2.length c4) y1.f2, Row k36 36 (.slice (some ⟨b14, 0, none⟩) 1 1) ([(⟨5, (⟨#[]⟩ : ByteArray), 0, ([] : List S36)⟩ : S36)] : List S36), Blk b34 [.int .i64 y29.1.f0, .int .i64 y29.1.f1, .slice A31 y29.1.f2.length c32] 24, Row k24 24 (.slice A31 y29.1.f2.length c32) y29.1.f2, Blk b28 [.int .i64 y23.1.f0, .int .i64 y23.1.f1, .slice A25 y23.1.f2.length c26] 24]) [2, 3, 4, 5, 6] 7 rfl rfl rfl) ?_
          refine TA.take 18 rfl (by kernel_rfl) rfl (PQ.then_ PQ.body) rfl (Val.pickN rfl hk431 rfl) (fun W hO => (hb349 _ _ (hb364 _ _ hO)).selT (Ls := [Row k24 24 (.slice A3 y1.f2.length c4) y1.f2, Row k36 36 (.slice (some ⟨b14, 0, none⟩) 1 1) ([(⟨5, (⟨#[]⟩ : ByteArray), 0, ([] : List S36)⟩ : S36)] : List S36), Blk b34 [.int .i64 y29.1.f0, .int .i64 y29.1.f1, .slice A31 y29.1.f2.length c32] 24, Row k24 24 (.slice A31 y29.1.f2.length c32) y29.1.f2, Blk b28 [.int .i64 y23.1.f0, .int .i64 y23.1.f1, .slice A25 y23.1.f2.length c26] 24]) [2, 3, 4, 5, 6] 7 rfl rfl rfl) ?_
          refine TA.take 19 rfl (by kernel_rfl) rfl (PQ.then_ PQ.body) rfl (Val.move rfl) (fun W hO => (hb349 _ _ (hb364 _ _ hO)).selT (Ls := [Row k24 24 (.slice A3 y1.f2.length c4) y1.f2, Row k36 36 (.slice (some ⟨b14, 0, none⟩) 1 1) ([(⟨5, (⟨#[]⟩ : ByteArray), 0, ([] : List S36)⟩ : S36)] : List S36), Blk b34 [.int .i64 y29.1.f0, .int .i64 y29.1.f1, .slice A31 y29.1.f2.length c32] 24, Row k24 24 (.slice A31 y29.1.f2.length c32) y29.1.f2, Blk b28 [.int .i64 y23.1.f0, .int .i64 y23.1.f1, .slice A25 y23.1.f2.length c26] 24]) [2, 3, 4, 5, 6] 7 rfl rfl rfl) ?_
          refine TA.not 20 rfl (by kernel_rfl) rfl (PQ.then_ PQ.body) (Wt.no rfl rfl rfl rfl) (fun W hO => (hb349 _ _ (hb364 _ _ hO)).selT (Ls := [Row k24 24 (.slice A3 y1.f2.length c4) y1.f2, Row k36 36 (.slice (some ⟨b14, 0, none⟩) 1 1) ([(⟨5, (⟨#[]⟩ : ByteArray), 0, ([] : List S36)⟩ : S36)] : List S36), Blk b34 [.int .i64 y29.1.f0, .int .i64 y29.1.f1, .slice A31 y29.1.f2.length c32] 24, Row k24 24 (.slice A31 y29.1.f2.length c32) y29.1.f2, Blk b28 [.int .i64 y23.1.f0, .int .i64 y23.1.f1, .slice A25 y23.1.f2.length c26] 24]) [2, 3, 4, 5, 6] 7 rfl rfl rfl) ?_
          refine TA.not 21 rfl (by kernel_rfl) rfl (PQ.then_ PQ.body) (Wt.no rfl rfl rfl rfl) (fun W hO => (hb349 _ _ (hb364 _ _ hO)).selT (Ls := [Row k24 24 (.slice A3 y1.f2.length c4) y1.f2, Row k36 36 (.slice (some ⟨b14, 0, none⟩) 1 1) ([(⟨5, (⟨#[]⟩ : ByteArray), 0, ([] : List S36)⟩ : S36)] : List S36), Blk b34 [.int .i64 y29.1.f0, .int .i64 y29.1.f1, .slice A31 y29.1.f2.length c32] 24, Row k24 24 (.slice A31 y29.1.f2.length c32) y29.1.f2, Blk b28 [.int .i64 y23.1.f0, .int .i64 y23.1.f1, .slice A25 y23.1.f2.length c26] 24]) [2, 3, 4, 5, 6] 7 rfl rfl rfl) ?_
          refine TA.take 22 rfl (by kernel_rfl) rfl (PQ.then_ PQ.body) rfl (Val.pickN rfl rfl rfl) (fun W hO => (hb349 _ _ (hb364 _ _ hO)).selT (Ls := [Row k24 24 (.slice A3 y1.f2.length c4) y1.f2, Row k36 36 (.slice (some ⟨b14, 0, none⟩) 1 1) ([(⟨5, (⟨#[]⟩ : ByteArray), 0, ([] : List S36)⟩ : S36)] : List S36), Blk b34 [.int .i64 y29.1.f0, .int .i64 y29.1.f1, .slice A31 y29.1.f2.length c32] 24, Row k24 24 (.slice A31 y29.1.f2.length c32) y29.1.f2, Blk b28 [.int .i64 y23.1.f0, .int .i64 y23.1.f1, .slice A25 y23.1.f2.length c26] 24]) [2, 3, 4, 5, 6] 7 rfl rfl rfl) ?_
          refine TA.take 23 rfl (by kernel_rfl) rfl (PQ.then_ PQ.body) rfl (Val.move rfl) (fun W hO => (hb349 _ _ (hb364 _ _ hO)).selT (Ls := [Row k24 24 (.slice A3 y1.f2.length c4) y1.f2, Row k36 36 (.slice (some ⟨b14, 0, none⟩) 1 1) ([(⟨5, (⟨#[]⟩ : ByteArray), 0, ([] : List S36)⟩ : S36)] : List S36), Blk b34 [.int .i64 y29.1.f0, .int .i64 y29.1.f1, .slice A31 y29.1.f2.length c32] 24, Row k24 24 (.slice A31 y29.1.f2.length c32) y29.1.f2, Blk b28 [.int .i64 y23.1.f0, .int .i64 y23.1.f1, .slice A25 y23.1.f2.length c26] 24]) [2, 3, 4, 5, 6] 7 rfl rfl rfl) ?_
          refine TA.not 24 rfl (by kernel_rfl) rfl (PQ.then_ PQ.body) (Wt.no rfl rfl rfl rfl) (fun W hO => (hb349 _ _ (hb364 _ _ hO)).selT (Ls := [Row k24 24 (.slice A3 y1.f2.length c4) y1.f2, Row k36 36 (.slice (some ⟨b14, 0, none⟩) 1 1) ([(⟨5, (⟨#[]⟩ : ByteArray), 0, ([] : List S36)⟩ : S36)] : List S36), Blk b34 [.int .i64 y29.1.f0, .int .i64 y29.1.f1, .slice A31 y29.1.f2.length c32] 24, Row k24 24 (.slice A31 y29.1.f2.length c32) y29.1.f2, Blk b28 [.int .i64 y23.1.f0, .int .i64 y23.1.f1, .slice A25 y23.1.f2.length c26] 24]) [2, 3, 4, 5, 6] 7 rfl rfl rfl) ?_
          refine TA.not 25 rfl (by kernel_rfl) rfl (PQ.then_ PQ.body) (Wt.no rfl rfl rfl rfl) (fun W hO => (hb349 _ _ (hb364 _ _ hO)).selT (Ls := [Row k24 24 (.slice A3 y1.f2.length c4) y1.f2, Row k36 36 (.slice (some ⟨b14, 0, none⟩) 1 1) ([(⟨5, (⟨#[]⟩ : ByteArray), 0, ([] : List S36)⟩ : S36)] : List S36), Blk b34 [.int .i64 y29.1.f0, .int .i64 y29.1.f1, .slice A31 y29.1.f2.length c32] 24, Row k24 24 (.slice A31 y29.1.f2.length c32) y29.1.f2, Blk b28 [.int .i64 y23.1.f0, .int .i64 y23.1.f1, .slice A25 y23.1.f2.length c26] 24]) [2, 3, 4, 5, 6] 7 rfl rfl rfl) ?_
          refine TA.not 26 rfl (by kernel_rfl) rfl (PQ.then_ PQ.body) (Wt.no rfl rfl rfl rfl) (fun W hO => (hb349 _ _ (hb364 _ _ hO)).selT (Ls := [Row k24 24 (.slice A3 y1.f2.length c4) y1.f2, Row k36 36 (.slice (some ⟨b14, 0, none⟩) 1 1) ([(⟨5, (⟨#[]⟩ : ByteArray), 0, ([] : List S36)⟩ : S36)] : List S36), Blk b34 [.int .i64 y29.1.f0, .int .i64 y29.1.f1, .slice A31 y29.1.f2.length c32] 24, Row k24 24 (.slice A31 y29.1.f2.length c32) y29.1.f2, Blk b28 [.int .i64 y23.1.f0, .int .i64 y23.1.f1, .slice A25 y23.1.f2.length c26] 24]) [2, 3, 4, 5, 6] 7 rfl rfl rfl) ?_
          refine TA.not 27 rfl (by kernel_rfl) rfl (PQ.then_ PQ.body) (Wt.no rfl rfl rfl rfl) (fun W hO => (hb349 _ _ (hb364 _ _ hO)).selT (Ls := [Row k24 24 (.slice A3 y1.f2.length c4) y1.f2, Row k36 36 (.slice (some ⟨b14, 0, none⟩) 1 1) ([(⟨5, (⟨#[]⟩ : ByteArray), 0, ([] : List S36)⟩ : S36)] : List S36), Blk b34 [.int .i64 y29.1.f0, .int .i64 y29.1.f1, .slice A31 y29.1.f2.length c32] 24, Row k24 24 (.slice A31 y29.1.f2.length c32) y29.1.f2, Blk b28 [.int .i64 y23.1.f0, .int .i64 y23.1.f1, .slice A25 y23.1.f2.length c26] 24]) [2, 3, 4, 5, 6] 7 rfl rfl rfl) ?_
          refine TA.take 28 rfl (by kernel_rfl) rfl (PQ.then_ PQ.body) rfl (Val.pickN rfl rfl rfl) (fun W hO => (hb349 _ _ (hb364 _ _ hO)).selT (Ls := [Row k24 24 (.slice A3 y1.f2.length c4) y1.f2, Row k36 36 (.slice (some ⟨b14, 0, none⟩) 1 1) ([(⟨5, (⟨#[]⟩ : ByteArray), 0, ([] : List S36)⟩ : S36)] : List S36), Blk b34 [.int .i64 y29.1.f0, .int .i64 y29.1.f1, .slice A31 y29.1.f2.length c32] 24, Row k24 24 (.slice A31 y29.1.f2.length c32) y29.1.f2, Blk b28 [.int .i64 y23.1.f0, .int .i64 y23.1.f1, .slice A25 y23.1.f2.length c26] 24]) [2, 3, 4, 5, 6] 7 rfl rfl rfl) ?_
          refine TA.take 29 rfl (by kernel_rfl) rfl (PQ.then_ PQ.body) rfl (Val.move rfl) (fun W hO => (hb349 _ _ (hb364 _ _ hO)).selT (Ls := [Row k24 24 (.slice A3 y1.f2.length c4) y1.f2, Row k36 36 (.slice (some ⟨b14, 0, none⟩) 1 1) ([(⟨5, (⟨#[]⟩ : ByteArray), 0, ([] : List S36)⟩ : S36)] : List S36), Blk b34 [.int .i64 y29.1.f0, .int .i64 y29.1.f1, .slice A31 y29.1.f2.length c32] 24, Row k24 24 (.slice A31 y29.1.f2.length c32) y29.1.f2, Blk b28 [.int .i64 y23.1.f0, .int .i64 y23.1.f1, .slice A25 y23.1.f2.length c26] 24]) [2, 3, 4, 5, 6] 7 rfl rfl rfl) ?_
          refine TA.not 30 rfl (by kernel_rfl) rfl (PQ.then_ PQ.body) (Wt.no rfl rfl rfl rfl) (fun W hO => (hb349 _ _ (hb364 _ _ hO)).selT (Ls := [Row k24 24 (.slice A3 y1.f2.length c4) y1.f2, Row k36 36 (.slice (some ⟨b14, 0, none⟩) 1 1) ([(⟨5, (⟨#[]⟩ : ByteArray), 0, ([] : List S36)⟩ : S36)] : List S36), Blk b34 [.int .i64 y29.1.f0, .int .i64 y29.1.f1, .slice A31 y29.1.f2.length c32] 24, Row k24 24 (.slice A31 y29.1.f2.length c32) y29.1.f2, Blk b28 [.int .i64 y23.1.f0, .int .i64 y23.1.f1, .slice A25 y23.1.f2.length c26] 24]) [2, 3, 4, 5, 6] 7 rfl rfl rfl) ?_
          refine TA.not 31 rfl (by kernel_rfl) rfl (PQ.then_ PQ.body) (Wt.no rfl rfl rfl rfl) (fun W hO => (hb349 _ _ (hb364 _ _ hO)).selT (Ls := [Row k24 24 (.slice A3 y1.f2.length c4) y1.f2, Row k36 36 (.slice (some ⟨b14, 0, none⟩) 1 1) ([(⟨5, (⟨#[]⟩ : ByteArray), 0, ([] : List S36)⟩ : S36)] : List S36), Blk b34 [.int .i64 y29.1.f0, .int .i64 y29.1.f1, .slice A31 y29.1.f2.length c32] 24, Row k24 24 (.slice A31 y29.1.f2.length c32) y29.1.f2, Blk b28 [.int .i64 y23.1.f0, .int .i64 y23.1.f1, .slice A25 y23.1.f2.length c26] 24]) [2, 3, 4, 5, 6] 7 rfl rfl rfl) ?_
          refine TA.take 32 rfl (by kernel_rfl) rfl (PQ.then_ PQ.body) rfl (Val.pickN rfl rfl rfl) (fun W hO => (hb349 _ _ (hb364 _ _ hO)).selT (Ls := [Row k24 24 (.slice A3 y1.f2.length c4) y1.f2, Row k36 36 (.slice (some ⟨b14, 0, none⟩) 1 1) ([(⟨5, (⟨#[]⟩ : ByteArray), 0, ([] : List S36)⟩ : S36)] : List S36), Blk b34 [.int .i64 y29.1.f0, .int .i64 y29.1.f1, .slice A31 y29.1.f2.length c32] 24, Row k24 24 (.slice A31 y29.1.f2.length c32) y29.1.f2, Blk b28 [.int .i64 y23.1.f0, .int .i64 y23.1.f1, .slice A25 y23.1.f2.length c26] 24]) [2, 3, 4, 5, 6] 7 rfl rfl rfl) ?_
          refine TA.take 33 rfl (by kernel_rfl) rfl (PQ.then_ PQ.body) rfl (Val.move rfl) (fun W hO => (hb349 _ _ (hb364 _ _ hO)).selT (Ls := [Row k24 24 (.slice A3 y1.f2.length c4) y1.f2, Row k36 36 (.slice (some ⟨b14, 0, none⟩) 1 1) ([(⟨5, (⟨#[]⟩ : ByteArray), 0, ([] : List S36)⟩ : S36)] : List S36), Blk b34 [.int .i64 y29.1.f0, .int .i64 y29.1.f1, .slice A31 y29.1.f2.length c32] 24, Row k24 24 (.slice A31 y29.1.f2.length c32) y29.1.f2, Blk b28 [.int .i64 y23.1.f0, .int .i64 y23.1.f1, .slice A25 y23.1.f2.length c26] 24]) [2, 3, 4, 5, 6] 7 rfl rfl rfl) ?_
          refine TA.not 34 rfl (by kernel_rfl) rfl (PQ.then_ PQ.body) (Wt.no rfl rfl rfl rfl) (fun W hO => (hb349 _ _ (hb364 _ _ hO)).selT (Ls := [Row k24 24 (.slice A3 y1.f2.length c4) y1.f2, Row k36 36 (.slice (some ⟨b14, 0, none⟩) 1 1) ([(⟨5, (⟨#[]⟩ : ByteArray), 0, ([] : List S36)⟩ : S36)] : List S36), Blk b34 [.int .i64 y29.1.f0, .int .i64 y29.1.f1, .slice A31 y29.1.f2.length c32] 24, Row k24 24 (.slice A31 y29.1.f2.length c32) y29.1.f2, Blk b28 [.int .i64 y23.1.f0, .int .i64 y23.1.f1, .slice A25 y23.1.f2.length c26] 24]) [2, 3, 4, 5, 6] 7 rfl rfl rfl) ?_
          refine TA.not 35 rfl (by kernel_rfl) rfl (PQ.then_ PQ.body) (Wt.no rfl rfl rfl rfl) (fun W hO => (hb349 _ _ (hb364 _ _ hO)).selT (Ls := [Row k24 24 (.slice A3 y1.f2.length c4) y1.f2, Row k36 36 (.slice (some ⟨b14, 0, none⟩) 1 1) ([(⟨5, (⟨#[]⟩ : ByteArray), 0, ([] : List S36)⟩ : S36)] : List S36), Blk b34 [.int .i64 y29.1.f0, .int .i64 y29.1.f1, .slice A31 y29.1.f2.length c32] 24, Row k24 24 (.slice A31 y29.1.f2.length c32) y29.1.f2, Blk b28 [.int .i64 y23.1.f0, .int .i64 y23.1.f1, .slice A25 y23.1.f2.length c26] 24]) [2, 3, 4, 5, 6] 7 rfl rfl rfl) ?_
          refine TA.take 36 rfl (by kernel_rfl) rfl (PQ.then_ PQ.body) rfl (Val.pickN rfl rfl rfl) (fun W hO => (hb349 _ _ (hb364 _ _ hO)).selT (Ls := [Row k24 24 (.slice A3 y1.f2.length c4) y1.f2, Row k36 36 (.slice (some ⟨b14, 0, none⟩) 1 1) ([(⟨5, (⟨#[]⟩ : ByteArray), 0, ([] : List S36)⟩ : S36)] : List S36), Blk b34 [.int .i64 y29.1.f0, .int .i64 y29.1.f1, .slice A31 y29.1.f2.length c32] 24, Row k24 24 (.slice A31 y29.1.f2.length c32) y29.1.f2, Blk b28 [.int .i64 y23.1.f0, .int .i64 y23.1.f1, .slice A25 y23.1.f2.length c26] 24]) [2, 3, 4, 5, 6] 7 rfl rfl rfl) ?_
          refine TA.take 37 rfl (by kernel_rfl) rfl (PQ.then_ PQ.body) rfl (Val.move rfl) (fun W hO => (hb349 _ _ (hb364 _ _ hO)).selT (Ls := [Row k24 24 (.slice A3 y1.f2.length c4) y1.f2, Row k36 36 (.slice (some ⟨b14, 0, none⟩) 1 1) ([(⟨5, (⟨#[]⟩ : ByteArray), 0, ([] : List S36)⟩ : S36)] : List S36), Blk b34 [.int .i64 y29.1.f0, .int .i64 y29.1.f1, .slice A31 y29.1.f2.length c32] 24, Row k24 24 (.slice A31 y29.1.f2.length c32) y29.1.f2, Blk b28 [.int .i64 y23.1.f0, .int .i64 y23.1.f1, .slice A25 y23.1.f2.length c26] 24]) [2, 3, 4, 5, 6] 7 rfl rfl rfl) ?_
          refine TA.not 38 rfl (by kernel_rfl) rfl (PQ.then_ PQ.body) (Wt.no rfl rfl rfl rfl) (fun W hO => (hb349 _ _ (hb364 _ _ hO)).selT (Ls := [Row k24 24 (.slice A3 y1.f2.length c4) y1.f2, Row k36 36 (.slice (some ⟨b14, 0, none⟩) 1 1) ([(⟨5, (⟨#[]⟩ : ByteArray), 0, ([] : List S36)⟩ : S36)] : List S36), Blk b34 [.int .i64 y29.1.f0, .int .i64 y29.1.f1, .slice A31 y29.1.f2.length c32] 24, Row k24 24 (.slice A31 y29.1.f2.length c32) y29.1.f2, Blk b28 [.int .i64 y23.1.f0, .int .i64 y23.1.f1, .slice A25 y23.1.f2.length c26] 24]) [2, 3, 4, 5, 6] 7 rfl rfl rfl) ?_
          refine TA.not 39 rfl (by kernel_rfl) rfl (PQ.then_ PQ.body) (Wt.no rfl rfl rfl rfl) (fun W hO => (hb349 _ _ (hb364 _ _ hO)).selT (Ls := [Row k24 24 (.slice A3 y1.f2.length c4) y1.f2, Row k36 36 (.slice (some ⟨b14, 0, none⟩) 1 1) ([(⟨5, (⟨#[]⟩ : ByteArray), 0, ([] : List S36)⟩ : S36)] : List S36), Blk b34 [.int .i64 y29.1.f0, .int .i64 y29.1.f1, .slice A31 y29.1.f2.length c32] 24, Row k24 24 (.slice A31 y29.1.f2.length c32) y29.1.f2, Blk b28 [.int .i64 y23.1.f0, .int .i64 y23.1.f1, .slice A25 y23.1.f2.length c26] 24]) [2, 3, 4, 5, 6] 7 rfl rfl rfl) ?_
          refine TA.not 40 rfl (by kernel_rfl) rfl (PQ.then_ PQ.body) (Wt.no rfl rfl rfl rfl) (fun W hO => (hb349 _ _ (hb364 _ _ hO)).selT (Ls := [Row k24 24 (.slice A3 y1.f2.length c4) y1.f2, Row k36 36 (.slice (some ⟨b14, 0, none⟩) 1 1) ([(⟨5, (⟨#[]⟩ : ByteArray), 0, ([] : List S36)⟩ : S36)] : List S36), Blk b34 [.int .i64 y29.1.f0, .int .i64 y29.1.f1, .slice A31 y29.1.f2.length c32] 24, Row k24 24 (.slice A31 y29.1.f2.length c32) y29.1.f2, Blk b28 [.int .i64 y23.1.f0, .int .i64 y23.1.f1, .slice A25 y23.1.f2.length c26] 24]) [2, 3, 4, 5, 6] 7 rfl rfl rfl) ?_
          refine TA.take 41 rfl (by kernel_rfl) rfl (PQ.then_ PQ.body) rfl (Val.pickN rfl rfl rfl) (fun W hO => (hb349 _ _ (hb364 _ _ hO)).selT (Ls := [Row k24 24 (.slice A3 y1.f2.length c4) y1.f2, Row k36 36 (.slice (some ⟨b14, 0, none⟩) 1 1) ([(⟨5, (⟨#[]⟩ : ByteArray), 0, ([] : List S36)⟩ : S36)] : List S36), Blk b34 [.int .i64 y29.1.f0, .int .i64 y29.1.f1, .slice A31 y29.1.f2.length c32] 24, Row k24 24 (.slice A31 y29.1.f2.length c32) y29.1.f2, Blk b28 [.int .i64 y23.1.f0, .int .i64 y23.1.f1, .slice A25 y23.1.f2.length c26] 24]) [2, 3, 4, 5, 6] 7 rfl rfl rfl) ?_
          refine TA.take 42 rfl (by kernel_rfl) rfl (PQ.then_ PQ.body) rfl (Val.assign rfl) (fun W hO => (hb349 _ _ (hb364 _ _ hO)).selT (Ls := [Row k24 24 (.slice A3 y1.f2.length c4) y1.f2, Row k36 36 (.slice (some ⟨b14, 0, none⟩) 1 1) ([(⟨5, (⟨#[]⟩ : ByteArray), 0, ([] : List S36)⟩ : S36)] : List S36), Blk b34 [.int .i64 y29.1.f0, .int .i64 y29.1.f1, .slice A31 y29.1.f2.length c32] 24, Row k24 24 (.slice A31 y29.1.f2.length c32) y29.1.f2, Blk b28 [.int .i64 y23.1.f0, .int .i64 y23.1.f1, .slice A25 y23.1.f2.length c26] 24]) [2, 3, 4, 5, 6] 7 rfl rfl rfl) ?_
          refine TA.done (by kernel_rfl) ?_
          refine TQ.then_ ?_
          refine TC.ret ?_
          refine TQ.back hb364 ?_
          refine TQ.back hb349 ?_
          refine TQ.back hb338 ?_
          obtain rfl := Option.some.inj h
          exact TQ.fin (.inl rfl) rfl Tryd.results7 (.tmp rfl .nil) rfl (FRel.mk (Ls := []) [] 8 (Gd.le.refl _) rfl rfl rfl ⟨rfl, rfl, rfl⟩)
      · have hk432 : decide (y12.1 = 4) = false := decide_eq_false hg371
        refine TA.not 12 rfl (by kernel_rfl) rfl (PQ.then_ PQ.body) (Wt.no rfl rfl rfl hk432) (fun W hO => (hb349 _ _ (hb364 _ _ hO)).selT (Ls := [Row k24 24 (.slice A3 y1.f2.length c4) y1.f2, Row k36 36 (.slice (some ⟨b14, 0, none⟩) 1 1) ([(⟨5, (⟨#[]⟩ : ByteArray), 0, ([] : List S36)⟩ : S36)] : List S36), Blk b34 [.int .i64 y29.1.f0, .int .i64 y29.1.f1, .slice A31 y29.1.f2.length c32] 24, Row k24 24 (.slice A31 y29.1.f2.length c32) y29.1.f2, Blk b28 [.int .i64 y23.1.f0, .int .i64 y23.1.f1, .slice A25 y23.1.f2.length c26] 24]) [2, 3, 4, 5, 6] 7 rfl rfl rfl) ?_
        refine TA.take 13 rfl (by kernel_rfl) rfl (PQ.then_ PQ.body) rfl (Val.pickN rfl hk432 rfl) (fun W hO => (hb349 _ _ (hb364 _ _ hO)).selT (Ls := [Row k24 24 (.slice A3 y1.f2.length c4) y1.f2, Row k36 36 (.slice (some ⟨b14, 0, none⟩) 1 1) ([(⟨5, (⟨#[]⟩ : ByteArray), 0, ([] : List S36)⟩ : S36)] : List S36), Blk b34 [.int .i64 y29.1.f0, .int .i64 y29.1.f1, .slice A31 y29.1.f2.length c32] 24, Row k24 24 (.slice A31 y29.1.f2.length c32) y29.1.f2, Blk b28 [.int .i64 y23.1.f0, .int .i64 y23.1.f1, .slice A25 y23.1.f2.length c26] 24]) [2, 3, 4, 5, 6] 7 rfl rfl rfl) ?_
        refine TA.take 14 rfl (by kernel_rfl) rfl (PQ.then_ PQ.body) rfl (Val.move rfl) (fun W hO => (hb349 _ _ (hb364 _ _ hO)).selT (Ls := [Row k24 24 (.slice A3 y1.f2.length c4) y1.f2, Row k36 36 (.slice (some ⟨b14, 0, none⟩) 1 1) ([(⟨5, (⟨#[]⟩ : ByteArray), 0, ([] : List S36)⟩ : S36)] : List S36), Blk b34 [.int .i64 y29.1.f0, .int .i64 y29.1.f1, .slice A31 y29.1.f2.length c32] 24, Row k24 24 (.slice A31 y29.1.f2.length c32) y29.1.f2, Blk b28 [.int .i64 y23.1.f0, .int .i64 y23.1.f1, .slice A25 y23.1.f2.length c26] 24]) [2, 3, 4, 5, 6] 7 rfl rfl rfl) ?_
        refine TA.not 15 rfl (by kernel_rfl) rfl (PQ.then_ PQ.body) (Wt.no rfl rfl rfl rfl) (fun W hO => (hb349 _ _ (hb364 _ _ hO)).selT (Ls := [Row k24 24 (.slice A3 y1.f2.length c4) y1.f2, Row k36 36 (.slice (some ⟨b14, 0, none⟩) 1 1) ([(⟨5, (⟨#[]⟩ : ByteArray), 0, ([] : List S36)⟩ : S36)] : List S36), Blk b34 [.int .i64 y29.1.f0, .int .i64 y29.1.f1, .slice A31 y29.1.f2.length c32] 24, Row k24 24 (.slice A31 y29.1.f2.length c32) y29.1.f2, Blk b28 [.int .i64 y23.1.f0, .int .i64 y23.1.f1, .slice A25 y23.1.f2.length c26] 24]) [2, 3, 4, 5, 6] 7 rfl rfl rfl) ?_
        refine TA.not 16 rfl (by kernel_rfl) rfl (PQ.then_ PQ.body) (Wt.no rfl rfl rfl rfl) (fun W hO => (hb349 _ _ (hb364 _ _ hO)).selT (Ls := [Row k24 24 (.slice A3 y1.f2.length c4) y1.f2, Row k36 36 (.slice (some ⟨b14, 0, none⟩) 1 1) ([(⟨5, (⟨#[]⟩ : ByteArray), 0, ([] : List S36)⟩ : S36)] : List S36), Blk b34 [.int .i64 y29.1.f0, .int .i64 y29.1.f1, .slice A31 y29.1.f2.length c32] 24, Row k24 24 (.slice A31 y29.1.f2.length c32) y29.1.f2, Blk b28 [.int .i64 y23.1.f0, .int .i64 y23.1.f1, .slice A25 y23.1.f2.length c26] 24]) [2, 3, 4, 5, 6] 7 rfl rfl rfl) ?_
        refine TA.not 17 rfl (by kernel_rfl) rfl (PQ.then_ PQ.body) (Wt.no rfl rfl rfl rfl) (fun W hO => (hb349 _ _ (hb364 _ _ hO)).selT (Ls := [Row k24 24 (.slice A3 y1.f2.length c4) y1.f2, Row k36 36 (.slice (some ⟨b14, 0, none⟩) 1 1) ([(⟨5, (⟨#[]⟩ : ByteArray), 0, ([] : List S36)⟩ : S36)] : List S36), Blk b34 [.int .i64 y29.1.f0, .int .i64 y29.1.f1, .slice A31 y29.1.f2.length c32] 24, Row k24 24 (.slice A31 y29.1.f2.length c32) y29.1.f2, Blk b28 [.int .i64 y23.1.f0, .int .i64 y23.1.f1, .slice A25 y23.1.f2.length c26] 24]) [2, 3, 4, 5, 6] 7 rfl rfl rfl) ?_
        refine TA.take 18 rfl (by kernel_rfl) rfl (PQ.then_ PQ.body) rfl (Val.pickN rfl rfl rfl) (fun W hO => (hb349 _ _ (hb364 _ _ hO)).selT (Ls := [Row k24 24 (.slice A3 y1.f2.length c4) y1.f2, Row k36 36 (.slice (some ⟨b14, 0, none⟩) 1 1) ([(⟨5, (⟨#[]⟩ : ByteArray), 0, ([] : List S36)⟩ : S36)] : List S36), Blk b34 [.int .i64 y29.1.f0, .int .i64 y29.1.f1, .slice A31 y29.1.f2.length c32] 24, Row k24 24 (.slice A31 y29.1.f2.length c32) y29.1.f2, Blk b28 [.int .i64 y23.1.f0, .int .i64 y23.1.f1, .slice A25 y23.1.f2.length c26] 24]) [2, 3, 4, 5, 6] 7 rfl rfl rfl) ?_
        refine TA.take 19 rfl (by kernel_rfl) rfl (PQ.then_ PQ.body) rfl (Val.move rfl) (fun W hO => (hb349 _ _ (hb364 _ _ hO)).selT (Ls := [Row k24 24 (.slice A3 y1.f2.length c4) y1.f2, Row k36 36 (.slice (some ⟨b14, 0, none⟩) 1 1) ([(⟨5, (⟨#[]⟩ : ByteArray), 0, ([] : List S36)⟩ : S36)] : List S36), Blk b34 [.int .i64 y29.1.f0, .int .i64 y29.1.f1, .slice A31 y29.1.f2.length c32] 24, Row k24 24 (.slice A31 y29.1.f2.length c32) y29.1.f2, Blk b28 [.int .i64 y23.1.f0, .int .i64 y23.1.f1, .slice A25 y23.1.f2.length c26] 24]) [2, 3, 4, 5, 6] 7 rfl rfl rfl) ?_
        refine TA.not 20 rfl (by kernel_rfl) rfl (PQ.then_ PQ.body) (Wt.no rfl rfl rfl rfl) (fun W hO => (hb349 _ _ (hb364 _ _ hO)).selT (Ls := [Row k24 24 (.slice A3 y1.f2.length c4) y1.f2, Row k36 36 (.slice (some ⟨b14, 0, none⟩) 1 1) ([(⟨5, (⟨#[]⟩ : ByteArray), 0, ([] : List S36)⟩ : S36)] : List S36), Blk b34 [.int .i64 y29.1.f0, .int .i64 y29.1.f1, .slice A31 y29.1.f2.length c32] 24, Row k24 24 (.slice A31 y29.1.f2.length c32) y29.1.f2, Blk b28 [.int .i64 y23.1.f0, .int .i64 y23.1.f1, .slice A25 y23.1.f2.length c26] 24]) [2, 3, 4, 5, 6] 7 rfl rfl rfl) ?_
        refine TA.not 21 rfl (by kernel_rfl) rfl (PQ.then_ PQ.body) (Wt.no rfl rfl rfl rfl) (fun W hO => (hb349 _ _ (hb364 _ _ hO)).selT (Ls := [Row k24 24 (.slice A3 y1.f2.length c4) y1.f2, Row k36 36 (.slice (some ⟨b14, 0, none⟩) 1 1) ([(⟨5, (⟨#[]⟩ : ByteArray), 0, ([] : List S36)⟩ : S36)] : List S36), Blk b34 [.int .i64 y29.1.f0, .int .i64 y29.1.f1, .slice A31 y29.1.f2.length c32] 24, Row k24 24 (.slice A31 y29.1.f2.length c32) y29.1.f2, Blk b28 [.int .i64 y23.1.f0, .int .i64 y23.1.f1, .slice A25 y23.1.f2.length c26] 24]) [2, 3, 4, 5, 6] 7 rfl rfl rfl) ?_
        refine TA.take 22 rfl (by kernel_rfl) rfl (PQ.then_ PQ.body) rfl (Val.pickN rfl rfl rfl) (fun W hO => (hb349 _ _ (hb364 _ _ hO)).selT (Ls := [Row k24 24 (.slice A3 y1.f2.length c4) y1.f2, Row k36 36 (.slice (some ⟨b14, 0, none⟩) 1 1) ([(⟨5, (⟨#[]⟩ : ByteArray), 0, ([] : List S36)⟩ : S36)] : List S36), Blk b34 [.int .i64 y29.1.f0, .int .i64 y29.1.f1, .slice A31 y29.1.f2.length c32] 24, Row k24 24 (.slice A31 y29.1.f2.length c32) y29.1.f2, Blk b28 [.int .i64 y23.1.f0, .int .i64 y23.1.f1, .slice A25 y23.1.f2.length c26] 24]) [2, 3, 4, 5, 6] 7 rfl rfl rfl) ?_
        refine TA.take 23 rfl (by kernel_rfl) rfl (PQ.then_ PQ.body) rfl (Val.move rfl) (fun W hO => (hb349 _ _ (hb364 _ _ hO)).selT (Ls := [Row k24 24 (.slice A3 y1.f2.length c4) y1.f2, Row k36 36 (.slice (some ⟨b14, 0, none⟩) 1 1) ([(⟨5, (⟨#[]⟩ : ByteArray), 0, ([] : List S36)⟩ : S36)] : List S36), Blk b34 [.int .i64 y29.1.f0, .int .i64 y29.1.f1, .slice A31 y29.1.f2.length c32] 24, Row k24 24 (.slice A31 y29.1.f2.length c32) y29.1.f2, Blk b28 [.int .i64 y23.1.f0, .int .i64 y23.1.f1, .slice A25 y23.1.f2.length c26] 24]) [2, 3, 4, 5, 6] 7 rfl rfl rfl) ?_
        refine TA.not 24 rfl (by kernel_rfl) rfl (PQ.then_ PQ.body) (Wt.no rfl rfl rfl rfl) (fun W hO => (hb349 _ _ (hb364 _ _ hO)).selT (Ls := [Row k24 24 (.slice A3 y1.f2.length c4) y1.f2, Row k36 36 (.slice (some ⟨b14, 0, none⟩) 1 1) ([(⟨5, (⟨#[]⟩ : ByteArray), 0, ([] : List S36)⟩ : S36)] : List S36), Blk b34 [.int .i64 y29.1.f0, .int .i64 y29.1.f1, .slice A31 y29.1.f2.length c32] 24, Row k24 24 (.slice A31 y29.1.f2.length c32) y29.1.f2, Blk b28 [.int .i64 y23.1.f0, .int .i64 y23.1.f1, .slice A25 y23.1.f2.length c26] 24]) [2, 3, 4, 5, 6] 7 rfl rfl rfl) ?_
        refine TA.not 25 rfl (by kernel_rfl) rfl (PQ.then_ PQ.body) (Wt.no rfl rfl rfl rfl) (fun W hO => (hb349 _ _ (hb364 _ _ hO)).selT (Ls := [Row k24 24 (.slice A3 y1.f2.length c4) y1.f2, Row k36 36 (.slice (some ⟨b14, 0, none⟩) 1 1) ([(⟨5, (⟨#[]⟩ : ByteArray), 0, ([] : List S36)⟩ : S36)] : List S36), Blk b34 [.int .i64 y29.1.f0, .int .i64 y29.1.f1, .slice A31 y29.1.f2.length c32] 24, Row k24 24 (.slice A31 y29.1.f2.length c32) y29.1.f2, Blk b28 [.int .i64 y23.1.f0, .int .i64 y23.1.f1, .slice A25 y23.1.f2.length c26] 24]) [2, 3, 4, 5, 6] 7 rfl rfl rfl) ?_
        refine TA.not 26 rfl (by kernel_rfl) rfl (PQ.then_ PQ.body) (Wt.no rfl rfl rfl rfl) (fun W hO => (hb349 _ _ (hb364 _ _ hO)).selT (Ls := [Row k24 24 (.slice A3 y1.f2.length c4) y1.f2, Row k36 36 (.slice (some ⟨b14, 0, none⟩) 1 1) ([(⟨5, (⟨#[]⟩ : ByteArray), 0, ([] : List S36)⟩ : S36)] : List S36), Blk b34 [.int .i64 y29.1.f0, .int .i64 y29.1.f1, .slice A31 y29.1.f2.length c32] 24, Row k24 24 (.slice A31 y29.1.f2.length c32) y29.1.f2, Blk b28 [.int .i64 y23.1.f0, .int .i64 y23.1.f1, .slice A25 y23.1.f2.length c26] 24]) [2, 3, 4, 5, 6] 7 rfl rfl rfl) ?_
        refine TA.not 27 rfl (by kernel_rfl) rfl (PQ.then_ PQ.body) (Wt.no rfl rfl rfl rfl) (fun W hO => (hb349 _ _ (hb364 _ _ hO)).selT (Ls := [Row k24 24 (.slice A3 y1.f2.length c4) y1.f2, Row k36 36 (.slice (some ⟨b14, 0, none⟩) 1 1) ([(⟨5, (⟨#[]⟩ : ByteArray), 0, ([] : List S36)⟩ : S36)] : List S36), Blk b34 [.int .i64 y29.1.f0, .int .i64 y29.1.f1, .slice A31 y29.1.f2.length c32] 24, Row k24 24 (.slice A31 y29.1.f2.length c32) y29.1.f2, Blk b28 [.int .i64 y23.1.f0, .int .i64 y23.1.f1, .slice A25 y23.1.f2.length c26] 24]) [2, 3, 4, 5, 6] 7 rfl rfl rfl) ?_
        refine TA.take 28 rfl (by kernel_rfl) rfl (PQ.then_ PQ.body) rfl (Val.pickN rfl rfl rfl) (fun W hO => (hb349 _ _ (hb364 _ _ hO)).selT (Ls := [Row k24 24 (.slice A3 y1.f2.length c4) y1.f2, Row k36 36 (.slice (some ⟨b14, 0, none⟩) 1 1) ([(⟨5, (⟨#[]⟩ : ByteArray), 0, ([] : List S36)⟩ : S36)] : List S36), Blk b34 [.int .i64 y29.1.f0, .int .i64 y29.1.f1, .slice A31 y29.1.f2.length c32] 24, Row k24 24 (.slice A31 y29.1.f2.length c32) y29.1.f2, Blk b28 [.int .i64 y23.1.f0, .int .i64 y23.1.f1, .slice A25 y23.1.f2.length c26] 24]) [2, 3, 4, 5, 6] 7 rfl rfl rfl) ?_
        refine TA.take 29 rfl (by kernel_rfl) rfl (PQ.then_ PQ.body) rfl (Val.move rfl) (fun W hO => (hb349 _ _ (hb364 _ _ hO)).selT (Ls := [Row k24 24 (.slice A3 y1.f2.length c4) y1.f2, Row k36 36 (.slice (some ⟨b14, 0, none⟩) 1 1) ([(⟨5, (⟨#[]⟩ : ByteArray), 0, ([] : List S36)⟩ : S36)] : List S36), Blk b34 [.int .i64 y29.1.f0, .int .i64 y29.1.f1, .slice A31 y29.1.f2.length c32] 24, Row k24 24 (.slice A31 y29.1.f2.length c32) y29.1.f2, Blk b28 [.int .i64 y23.1.f0, .int .i64 y23.1.f1, .slice A25 y23.1.f2.length c26] 24]) [2, 3, 4, 5, 6] 7 rfl rfl rfl) ?_
        refine TA.not 30 rfl (by kernel_rfl) rfl (PQ.then_ PQ.body) (Wt.no rfl rfl rfl rfl) (fun W hO => (hb349 _ _ (hb364 _ _ hO)).selT (Ls := [Row k24 24 (.slice A3 y1.f2.length c4) y1.f2, Row k36 36 (.slice (some ⟨b14, 0, none⟩) 1 1) ([(⟨5, (⟨#[]⟩ : ByteArray), 0, ([] : List S36)⟩ : S36)] : List S36), Blk b34 [.int .i64 y29.1.f0, .int .i64 y29.1.f1, .slice A31 y29.1.f2.length c32] 24, Row k24 24 (.slice A31 y29.1.f2.length c32) y29.1.f2, Blk b28 [.int .i64 y23.1.f0, .int .i64 y23.1.f1, .slice A25 y23.1.f2.length c26] 24]) [2, 3, 4, 5, 6] 7 rfl rfl rfl) ?_
        refine TA.not 31 rfl (by kernel_rfl) rfl (PQ.then_ PQ.body) (Wt.no rfl rfl rfl rfl) (fun W hO => (hb349 _ _ (hb364 _ _ hO)).selT (Ls := [Row k24 24 (.slice A3 y1.f2.length c4) y1.f2, Row k36 36 (.slice (some ⟨b14, 0, none⟩) 1 1) ([(⟨5, (⟨#[]⟩ : ByteArray), 0, ([] : List S36)⟩ : S36)] : List S36), Blk b34 [.int .i64 y29.1.f0, .int .i64 y29.1.f1, .slice A31 y29.1.f2.length c32] 24, Row k24 24 (.slice A31 y29.1.f2.length c32) y29.1.f2, Blk b28 [.int .i64 y23.1.f0, .int .i64 y23.1.f1, .slice A25 y23.1.f2.length c26] 24]) [2, 3, 4, 5, 6] 7 rfl rfl rfl) ?_
        refine TA.take 32 rfl (by kernel_rfl) rfl (PQ.then_ PQ.body) rfl (Val.pickN rfl rfl rfl) (fun W hO => (hb349 _ _ (hb364 _ _ hO)).selT (Ls := [Row k24 24 (.slice A3 y1.f2.length c4) y1.f2, Row k36 36 (.slice (some ⟨b14, 0, none⟩) 1 1) ([(⟨5, (⟨#[]⟩ : ByteArray), 0, ([] : List S36)⟩ : S36)] : List S36), Blk b34 [.int .i64 y29.1.f0, .int .i64 y29.1.f1, .slice A31 y29.1.f2.length c32] 24, Row k24 24 (.slice A31 y29.1.f2.length c32) y29.1.f2, Blk b28 [.int .i64 y23.1.f0, .int .i64 y23.1.f1, .slice A25 y23.1.f2.length c26] 24]) [2, 3, 4, 5, 6] 7 rfl rfl rfl) ?_
        refine TA.take 33 rfl (by kernel_rfl) rfl (PQ.then_ PQ.body) rfl (Val.move rfl) (fun W hO => (hb349 _ _ (hb364 _ _ hO)).selT (Ls := [Row k24 24 (.slice A3 y1.f2.length c4) y1.f2, Row k36 36 (.slice (some ⟨b14, 0, none⟩) 1 1) ([(⟨5, (⟨#[]⟩ : ByteArray), 0, ([] : List S36)⟩ : S36)] : List S36), Blk b34 [.int .i64 y29.1.f0, .int .i64 y29.1.f1, .slice A31 y29.1.f2.length c32] 24, Row k24 24 (.slice A31 y29.1.f2.length c32) y29.1.f2, Blk b28 [.int .i64 y23.1.f0, .int .i64 y23.1.f1, .slice A25 y23.1.f2.length c26] 24]) [2, 3, 4, 5, 6] 7 rfl rfl rfl) ?_
        refine TA.not 34 rfl (by kernel_rfl) rfl (PQ.then_ PQ.body) (Wt.no rfl rfl rfl rfl) (fun W hO => (hb349 _ _ (hb364 _ _ hO)).selT (Ls := [Row k24 24 (.slice A3 y1.f2.length c4) y1.f2, Row k36 36 (.slice (some ⟨b14, 0, none⟩) 1 1) ([(⟨5, (⟨#[]⟩ : ByteArray), 0, ([] : List S36)⟩ : S36)] : List S36), Blk b34 [.int .i64 y29.1.f0, .int .i64 y29.1.f1, .slice A31 y29.1.f2.length c32] 24, Row k24 24 (.slice A31 y29.1.f2.length c32) y29.1.f2, Blk b28 [.int .i64 y23.1.f0, .int .i64 y23.1.f1, .slice A25 y23.1.f2.length c26] 24]) [2, 3, 4, 5, 6] 7 rfl rfl rfl) ?_
        refine TA.not 35 rfl (by kernel_rfl) rfl (PQ.then_ PQ.body) (Wt.no rfl rfl rfl rfl) (fun W hO => (hb349 _ _ (hb364 _ _ hO)).selT (Ls := [Row k24 24 (.slice A3 y1.f2.length c4) y1.f2, Row k36 36 (.slice (some ⟨b14, 0, none⟩) 1 1) ([(⟨5, (⟨#[]⟩ : ByteArray), 0, ([] : List S36)⟩ : S36)] : List S36), Blk b34 [.int .i64 y29.1.f0, .int .i64 y29.1.f1, .slice A31 y29.1.f2.length c32] 24, Row k24 24 (.slice A31 y29.1.f2.length c32) y29.1.f2, Blk b28 [.int .i64 y23.1.f0, .int .i64 y23.1.f1, .slice A25 y23.1.f2.length c26] 24]) [2, 3, 4, 5, 6] 7 rfl rfl rfl) ?_
        refine TA.take 36 rfl (by kernel_rfl) rfl (PQ.then_ PQ.body) rfl (Val.pickN rfl rfl rfl) (fun W hO => (hb349 _ _ (hb364 _ _ hO)).selT (Ls := [Row k24 24 (.slice A3 y1.f2.length c4) y1.f2, Row k36 36 (.slice (some ⟨b14, 0, none⟩) 1 1) ([(⟨5, (⟨#[]⟩ : ByteArray), 0, ([] : List S36)⟩ : S36)] : List S36), Blk b34 [.int .i64 y29.1.f0, .int .i64 y29.1.f1, .slice A31 y29.1.f2.length c32] 24, Row k24 24 (.slice A31 y29.1.f2.length c32) y29.1.f2, Blk b28 [.int .i64 y23.1.f0, .int .i64 y23.1.f1, .slice A25 y23.1.f2.length c26] 24]) [2, 3, 4, 5, 6] 7 rfl rfl rfl) ?_
        refine TA.take 37 rfl (by kernel_rfl) rfl (PQ.then_ PQ.body) rfl (Val.move rfl) (fun W hO => (hb349 _ _ (hb364 _ _ hO)).selT (Ls := [Row k24 24 (.slice A3 y1.f2.length c4) y1.f2, Row k36 36 (.slice (some ⟨b14, 0, none⟩) 1 1) ([(⟨5, (⟨#[]⟩ : ByteArray), 0, ([] : List S36)⟩ : S36)] : List S36), Blk b34 [.int .i64 y29.1.f0, .int .i64 y29.1.f1, .slice A31 y29.1.f2.length c32] 24, Row k24 24 (.slice A31 y29.1.f2.length c32) y29.1.f2, Blk b28 [.int .i64 y23.1.f0, .int .i64 y23.1.f1, .slice A25 y23.1.f2.length c26] 24]) [2, 3, 4, 5, 6] 7 rfl rfl rfl) ?_
        refine TA.not 38 rfl (by kernel_rfl) rfl (PQ.then_ PQ.body) (Wt.no rfl rfl rfl rfl) (fun W hO => (hb349 _ _ (hb364 _ _ hO)).selT (Ls := [Row k24 24 (.slice A3 y1.f2.length c4) y1.f2, Row k36 36 (.slice (some ⟨b14, 0, none⟩) 1 1) ([(⟨5, (⟨#[]⟩ : ByteArray), 0, ([] : List S36)⟩ : S36)] : List S36), Blk b34 [.int .i64 y29.1.f0, .int .i64 y29.1.f1, .slice A31 y29.1.f2.length c32] 24, Row k24 24 (.slice A31 y29.1.f2.length c32) y29.1.f2, Blk b28 [.int .i64 y23.1.f0, .int .i64 y23.1.f1, .slice A25 y23.1.f2.length c26] 24]) [2, 3, 4, 5, 6] 7 rfl rfl rfl) ?_
        refine TA.not 39 rfl (by kernel_rfl) rfl (PQ.then_ PQ.body) (Wt.no rfl rfl rfl rfl) (fun W hO => (hb349 _ _ (hb364 _ _ hO)).selT (Ls := [Row k24 24 (.slice A3 y1.f2.length c4) y1.f2, Row k36 36 (.slice (some ⟨b14, 0, none⟩) 1 1) ([(⟨5, (⟨#[]⟩ : ByteArray), 0, ([] : List S36)⟩ : S36)] : List S36), Blk b34 [.int .i64 y29.1.f0, .int .i64 y29.1.f1, .slice A31 y29.1.f2.length c32] 24, Row k24 24 (.slice A31 y29.1.f2.length c32) y29.1.f2, Blk b28 [.int .i64 y23.1.f0, .int .i64 y23.1.f1, .slice A25 y23.1.f2.length c26] 24]) [2, 3, 4, 5, 6] 7 rfl rfl rfl) ?_
        refine TA.not 40 rfl (by kernel_rfl) rfl (PQ.then_ PQ.body) (Wt.no rfl rfl rfl rfl) (fun W hO => (hb349 _ _ (hb364 _ _ hO)).selT (Ls := [Row k24 24 (.slice A3 y1.f2.length c4) y1.f2, Row k36 36 (.slice (some ⟨b14, 0, none⟩) 1 1) ([(⟨5, (⟨#[]⟩ : ByteArray), 0, ([] : List S36)⟩ : S36)] : List S36), Blk b34 [.int .i64 y29.1.f0, .int .i64 y29.1.f1, .slice A31 y29.1.f2.length c32] 24, Row k24 24 (.slice A31 y29.1.f2.length c32) y29.1.f2, Blk b28 [.int .i64 y23.1.f0, .int .i64 y23.1.f1, .slice A25 y23.1.f2.length c26] 24]) [2, 3, 4, 5, 6] 7 rfl rfl rfl) ?_
        refine TA.take 41 rfl (by kernel_rfl) rfl (PQ.then_ PQ.body) rfl (Val.pickN rfl rfl rfl) (fun W hO => (hb349 _ _ (hb364 _ _ hO)).selT (Ls := [Row k24 24 (.slice A3 y1.f2.length c4) y1.f2, Row k36 36 (.slice (some ⟨b14, 0, none⟩) 1 1) ([(⟨5, (⟨#[]⟩ : ByteArray), 0, ([] : List S36)⟩ : S36)] : List S36), Blk b34 [.int .i64 y29.1.f0, .int .i64 y29.1.f1, .slice A31 y29.1.f2.length c32] 24, Row k24 24 (.slice A31 y29.1.f2.length c32) y29.1.f2, Blk b28 [.int .i64 y23.1.f0, .int .i64 y23.1.f1, .slice A25 y23.1.f2.length c26] 24]) [2, 3, 4, 5, 6] 7 rfl rfl rfl) ?_
        refine TA.take 42 rfl (by kernel_rfl) rfl (PQ.then_ PQ.body) rfl (Val.assign rfl) (fun W hO => (hb349 _ _ (hb364 _ _ hO)).selT (Ls := [Row k24 24 (.slice A3 y1.f2.length c4) y1.f2, Row k36 36 (.slice (some ⟨b14, 0, none⟩) 1 1) ([(⟨5, (⟨#[]⟩ : ByteArray), 0, ([] : List S36)⟩ : S36)] : List S36), Blk b34 [.int .i64 y29.1.f0, .int .i64 y29.1.f1, .slice A31 y29.1.f2.length c32] 24, Row k24 24 (.slice A31 y29.1.f2.length c32) y29.1.f2, Blk b28 [.int .i64 y23.1.f0, .int .i64 y23.1.f1, .slice A25 y23.1.f2.length c26] 24]) [2, 3, 4, 5, 6] 7 rfl rfl rfl) ?_
        refine TA.done (by kernel_rfl) ?_
        refine TQ.then_ ?_
        refine TC.ret ?_
        refine TQ.back hb364 ?_
        refine TQ.back hb349 ?_
        refine TQ.back hb338 ?_
        obtain rfl := Option.some.inj h
        exact TQ.fin (.inl rfl) rfl Tryd.results7 (.tmp rfl .nil) rfl (FRel.mk (Ls := []) [] 8 (Gd.le.refl _) rfl rfl rfl ⟨rfl, rfl, rfl⟩)
    · have hk433 : decide (y367 = 5) = false := decide_eq_false hg369
      refine TA.not 8 rfl (by kernel_rfl) rfl (PQ.then_ PQ.body) (Wt.no rfl rfl rfl hk433) (fun W hO => (hb349 _ _ (hb364 _ _ hO)).selT (Ls := [Row k24 24 (.slice A3 y1.f2.length c4) y1.f2, Row k36 36 (.slice (some ⟨b14, 0, none⟩) 1 1) ([(⟨5, (⟨#[]⟩ : ByteArray), 0, ([] : List S36)⟩ : S36)] : List S36), Blk b34 [.int .i64 y29.1.f0, .int .i64 y29.1.f1, .slice A31 y29.1.f2.length c32] 24, Row k24 24 (.slice A31 y29.1.f2.length c32) y29.1.f2, Blk b28 [.int .i64 y23.1.f0, .int .i64 y23.1.f1, .slice A25 y23.1.f2.length c26] 24]) [2, 3, 4, 5, 6] 7 rfl rfl rfl) ?_
      refine TA.not 9 rfl (by kernel_rfl) rfl (PQ.then_ PQ.body) (Wt.no rfl rfl rfl hk433) (fun W hO => (hb349 _ _ (hb364 _ _ hO)).selT (Ls := [Row k24 24 (.slice A3 y1.f2.length c4) y1.f2, Row k36 36 (.slice (some ⟨b14, 0, none⟩) 1 1) ([(⟨5, (⟨#[]⟩ : ByteArray), 0, ([] : List S36)⟩ : S36)] : List S36), Blk b34 [.int .i64 y29.1.f0, .int .i64 y29.1.f1, .slice A31 y29.1.f2.length c32] 24, Row k24 24 (.slice A31 y29.1.f2.length c32) y29.1.f2, Blk b28 [.int .i64 y23.1.f0, .int .i64 y23.1.f1, .slice A25 y23.1.f2.length c26] 24]) [2, 3, 4, 5, 6] 7 rfl rfl rfl) ?_
      refine TA.take 10 rfl (by kernel_rfl) rfl (PQ.then_ PQ.body) rfl (Val.pickN rfl hk433 rfl) (fun W hO => (hb349 _ _ (hb364 _ _ hO)).selT (Ls := [Row k24 24 (.slice A3 y1.f2.length c4) y1.f2, Row k36 36 (.slice (some ⟨b14, 0, none⟩) 1 1) ([(⟨5, (⟨#[]⟩ : ByteArray), 0, ([] : List S36)⟩ : S36)] : List S36), Blk b34 [.int .i64 y29.1.f0, .int .i64 y29.1.f1, .slice A31 y29.1.f2.length c32] 24, Row k24 24 (.slice A31 y29.1.f2.length c32) y29.1.f2, Blk b28 [.int .i64 y23.1.f0, .int .i64 y23.1.f1, .slice A25 y23.1.f2.length c26] 24]) [2, 3, 4, 5, 6] 7 rfl rfl rfl) ?_
      refine TA.take 11 rfl (by kernel_rfl) rfl (PQ.then_ PQ.body) rfl (Val.move rfl) (fun W hO => (hb349 _ _ (hb364 _ _ hO)).selT (Ls := [Row k24 24 (.slice A3 y1.f2.length c4) y1.f2, Row k36 36 (.slice (some ⟨b14, 0, none⟩) 1 1) ([(⟨5, (⟨#[]⟩ : ByteArray), 0, ([] : List S36)⟩ : S36)] : List S36), Blk b34 [.int .i64 y29.1.f0, .int .i64 y29.1.f1, .slice A31 y29.1.f2.length c32] 24, Row k24 24 (.slice A31 y29.1.f2.length c32) y29.1.f2, Blk b28 [.int .i64 y23.1.f0, .int .i64 y23.1.f1, .slice A25 y23.1.f2.length c26] 24]) [2, 3, 4, 5, 6] 7 rfl rfl rfl) ?_
      refine TA.not 12 rfl (by kernel_rfl) rfl (PQ.then_ PQ.body) (Wt.no rfl rfl rfl rfl) (fun W hO => (hb349 _ _ (hb364 _ _ hO)).selT (Ls := [Row k24 24 (.slice A3 y1.f2.length c4) y1.f2, Row k36 36 (.slice (some ⟨b14, 0, none⟩) 1 1) ([(⟨5, (⟨#[]⟩ : ByteArray), 0, ([] : List S36)⟩ : S36)] : List S36), Blk b34 [.int .i64 y29.1.f0, .int .i64 y29.1.f1, .slice A31 y29.1.f2.length c32] 24, Row k24 24 (.slice A31 y29.1.f2.length c32) y29.1.f2, Blk b28 [.int .i64 y23.1.f0, .int .i64 y23.1.f1, .slice A25 y23.1.f2.length c26] 24]) [2, 3, 4, 5, 6] 7 rfl rfl rfl) ?_
      refine TA.take 13 rfl (by kernel_rfl) rfl (PQ.then_ PQ.body) rfl (Val.pickN rfl rfl rfl) (fun W hO => (hb349 _ _ (hb364 _ _ hO)).selT (Ls := [Row k24 24 (.slice A3 y1.f2.length c4) y1.f2, Row k36 36 (.slice (some ⟨b14, 0, none⟩) 1 1) ([(⟨5, (⟨#[]⟩ : ByteArray), 0, ([] : List S36)⟩ : S36)] : List S36), Blk b34 [.int .i64 y29.1.f0, .int .i64 y29.1.f1, .slice A31 y29.1.f2.length c32] 24, Row k24 24 (.slice A31 y29.1.f2.length c32) y29.1.f2, Blk b28 [.int .i64 y23.1.f0, .int .i64 y23.1.f1, .slice A25 y23.1.f2.length c26] 24]) [2, 3, 4, 5, 6] 7 rfl rfl rfl) ?_
      refine TA.take 14 rfl (by kernel_rfl) rfl (PQ.then_ PQ.body) rfl (Val.move rfl) (fun W hO => (hb349 _ _ (hb364 _ _ hO)).selT (Ls := [Row k24 24 (.slice A3 y1.f2.length c4) y1.f2, Row k36 36 (.slice (some ⟨b14, 0, none⟩) 1 1) ([(⟨5, (⟨#[]⟩ : ByteArray), 0, ([] : List S36)⟩ : S36)] : List S36), Blk b34 [.int .i64 y29.1.f0, .int .i64 y29.1.f1, .slice A31 y29.1.f2.length c32] 24, Row k24 24 (.slice A31 y29.1.f2.length c32) y29.1.f2, Blk b28 [.int .i64 y23.1.f0, .int .i64 y23.1.f1, .slice A25 y23.1.f2.length c26] 24]) [2, 3, 4, 5, 6] 7 rfl rfl rfl) ?_
      refine TA.not 15 rfl (by kernel_rfl) rfl (PQ.then_ PQ.body) (Wt.no rfl rfl rfl rfl) (fun W hO => (hb349 _ _ (hb364 _ _ hO)).selT (Ls := [Row k24 24 (.slice A3 y1.f2.length c4) y1.f2, Row k36 36 (.slice (some ⟨b14, 0, none⟩) 1 1) ([(⟨5, (⟨#[]⟩ : ByteArray), 0, ([] : List S36)⟩ : S36)] : List S36), Blk b34 [.int .i64 y29.1.f0, .int .i64 y29.1.f1, .slice A31 y29.1.f2.length c32] 24, Row k24 24 (.slice A31 y29.1.f2.length c32) y29.1.f2, Blk b28 [.int .i64 y23.1.f0, .int .i64 y23.1.f1, .slice A25 y23.1.f2.length c26] 24]) [2, 3, 4, 5, 6] 7 rfl rfl rfl) ?_
      refine TA.not 16 rfl (by kernel_rfl) rfl (PQ.then_ PQ.body) (Wt.no rfl rfl rfl rfl) (fun W hO => (hb349 _ _ (hb364 _ _ hO)).selT (Ls := [Row k24 24 (.slice A3 y1.f2.length c4) y1.f2, Row k36 36 (.slice (some ⟨b14, 0, none⟩) 1 1) ([(⟨5, (⟨#[]⟩ : ByteArray), 0, ([] : List S36)⟩ : S36)] : List S36), Blk b34 [.int .i64 y29.1.f0, .int .i64 y29.1.f1, .slice A31 y29.1.f2.length c32] 24, Row k24 24 (.slice A31 y29.1.f2.length c32) y29.1.f2, Blk b28 [.int .i64 y23.1.f0, .int .i64 y23.1.f1, .slice A25 y23.1.f2.length c26] 24]) [2, 3, 4, 5, 6] 7 rfl rfl rfl) ?_
      refine TA.not 17 rfl (by kernel_rfl) rfl (PQ.then_ PQ.body) (Wt.no rfl rfl rfl rfl) (fun W hO => (hb349 _ _ (hb364 _ _ hO)).selT (Ls := [Row k24 24 (.slice A3 y1.f2.length c4) y1.f2, Row k36 36 (.slice (some ⟨b14, 0, none⟩) 1 1) ([(⟨5, (⟨#[]⟩ : ByteArray), 0, ([] : List S36)⟩ : S36)] : List S36), Blk b34 [.int .i64 y29.1.f0, .int .i64 y29.1.f1, .slice A31 y29.1.f2.length c32] 24, Row k24 24 (.slice A31 y29.1.f2.length c32) y29.1.f2, Blk b28 [.int .i64 y23.1.f0, .int .i64 y23.1.f1, .slice A25 y23.1.f2.length c26] 24]) [2, 3, 4, 5, 6] 7 rfl rfl rfl) ?_
      refine TA.take 18 rfl (by kernel_rfl) rfl (PQ.then_ PQ.body) rfl (Val.pickN rfl rfl rfl) (fun W hO => (hb349 _ _ (hb364 _ _ hO)).selT (Ls := [Row k24 24 (.slice A3 y1.f2.length c4) y1.f2, Row k36 36 (.slice (some ⟨b14, 0, none⟩) 1 1) ([(⟨5, (⟨#[]⟩ : ByteArray), 0, ([] : List S36)⟩ : S36)] : List S36), Blk b34 [.int .i64 y29.1.f0, .int .i64 y29.1.f1, .slice A31 y29.1.f2.length c32] 24, Row k24 24 (.slice A31 y29.1.f2.length c32) y29.1.f2, Blk b28 [.int .i64 y23.1.f0, .int .i64 y23.1.f1, .slice A25 y23.1.f2.length c26] 24]) [2, 3, 4, 5, 6] 7 rfl rfl rfl) ?_
      refine TA.take 19 rfl (by kernel_rfl) rfl (PQ.then_ PQ.body) rfl (Val.move rfl) (fun W hO => (hb349 _ _ (hb364 _ _ hO)).selT (Ls := [Row k24 24 (.slice A3 y1.f2.length c4) y1.f2, Row k36 36 (.slice (some ⟨b14, 0, none⟩) 1 1) ([(⟨5, (⟨#[]⟩ : ByteArray), 0, ([] : List S36)⟩ : S36)] : List S36), Blk b34 [.int .i64 y29.1.f0, .int .i64 y29.1.f1, .slice A31 y29.1.f2.length c32] 24, Row k24 24 (.slice A31 y29.1.f2.length c32) y29.1.f2, Blk b28 [.int .i64 y23.1.f0, .int .i64 y23.1.f1, .slice A25 y23.1.f2.length c26] 24]) [2, 3, 4, 5, 6] 7 rfl rfl rfl) ?_
      refine TA.not 20 rfl (by kernel_rfl) rfl (PQ.then_ PQ.body) (Wt.no rfl rfl rfl rfl) (fun W hO => (hb349 _ _ (hb364 _ _ hO)).selT (Ls := [Row k24 24 (.slice A3 y1.f2.length c4) y1.f2, Row k36 36 (.slice (some ⟨b14, 0, none⟩) 1 1) ([(⟨5, (⟨#[]⟩ : ByteArray), 0, ([] : List S36)⟩ : S36)] : List S36), Blk b34 [.int .i64 y29.1.f0, .int .i64 y29.1.f1, .slice A31 y29.1.f2.length c32] 24, Row k24 24 (.slice A31 y29.1.f2.length c32) y29.1.f2, Blk b28 [.int .i64 y23.1.f0, .int .i64 y23.1.f1, .slice A25 y23.1.f2.length c26] 24]) [2, 3, 4, 5, 6] 7 rfl rfl rfl) ?_
      refine TA.not 21 rfl (by kernel_rfl) rfl (PQ.then_ PQ.body) (Wt.no rfl rfl rfl rfl) (fun W hO => (hb349 _ _ (hb364 _ _ hO)).selT (Ls := [Row k24 24 (.slice A3 y1.f2.length c4) y1.f2, Row k36 36 (.slice (some ⟨b14, 0, none⟩) 1 1) ([(⟨5, (⟨#[]⟩ : ByteArray), 0, ([] : List S36)⟩ : S36)] : List S36), Blk b34 [.int .i64 y29.1.f0, .int .i64 y29.1.f1, .slice A31 y29.1.f2.length c32] 24, Row k24 24 (.slice A31 y29.1.f2.length c32) y29.1.f2, Blk b28 [.int .i64 y23.1.f0, .int .i64 y23.1.f1, .slice A25 y23.1.f2.length c26] 24]) [2, 3, 4, 5, 6] 7 rfl rfl rfl) ?_
      refine TA.take 22 rfl (by kernel_rfl) rfl (PQ.then_ PQ.body) rfl (Val.pickN rfl rfl rfl) (fun W hO => (hb349 _ _ (hb364 _ _ hO)).selT (Ls := [Row k24 24 (.slice A3 y1.f2.length c4) y1.f2, Row k36 36 (.slice (some ⟨b14, 0, none⟩) 1 1) ([(⟨5, (⟨#[]⟩ : ByteArray), 0, ([] : List S36)⟩ : S36)] : List S36), Blk b34 [.int .i64 y29.1.f0, .int .i64 y29.1.f1, .slice A31 y29.1.f2.length c32] 24, Row k24 24 (.slice A31 y29.1.f2.length c32) y29.1.f2, Blk b28 [.int .i64 y23.1.f0, .int .i64 y23.1.f1, .slice A25 y23.1.f2.length c26] 24]) [2, 3, 4, 5, 6] 7 rfl rfl rfl) ?_
      refine TA.take 23 rfl (by kernel_rfl) rfl (PQ.then_ PQ.body) rfl (Val.move rfl) (fun W hO => (hb349 _ _ (hb364 _ _ hO)).selT (Ls := [Row k24 24 (.slice A3 y1.f2.length c4) y1.f2, Row k36 36 (.slice (some ⟨b14, 0, none⟩) 1 1) ([(⟨5, (⟨#[]⟩ : ByteArray), 0, ([] : List S36)⟩ : S36)] : List S36), Blk b34 [.int .i64 y29.1.f0, .int .i64 y29.1.f1, .slice A31 y29.1.f2.length c32] 24, Row k24 24 (.slice A31 y29.1.f2.length c32) y29.1.f2, Blk b28 [.int .i64 y23.1.f0, .int .i64 y23.1.f1, .slice A25 y23.1.f2.length c26] 24]) [2, 3, 4, 5, 6] 7 rfl rfl rfl) ?_
      refine TA.not 24 rfl (by kernel_rfl) rfl (PQ.then_ PQ.body) (Wt.no rfl rfl rfl rfl) (fun W hO => (hb349 _ _ (hb364 _ _ hO)).selT (Ls := [Row k24 24 (.slice A3 y1.f2.length c4) y1.f2, Row k36 36 (.slice (some ⟨b14, 0, none⟩) 1 1) ([(⟨5, (⟨#[]⟩ : ByteArray), 0, ([] : List S36)⟩ : S36)] : List S36), Blk b34 [.int .i64 y29.1.f0, .int .i64 y29.1.f1, .slice A31 y29.1.f2.length c32] 24, Row k24 24 (.slice A31 y29.1.f2.length c32) y29.1.f2, Blk b28 [.int .i64 y23.1.f0, .int .i64 y23.1.f1, .slice A25 y23.1.f2.length c26] 24]) [2, 3, 4, 5, 6] 7 rfl rfl rfl) ?_
      refine TA.not 25 rfl (by kernel_rfl) rfl (PQ.then_ PQ.body) (Wt.no rfl rfl rfl rfl) (fun W hO => (hb349 _ _ (hb364 _ _ hO)).selT (Ls := [Row k24 24 (.slice A3 y1.f2.length c4) y1.f2, Row k36 36 (.slice (some ⟨b14, 0, none⟩) 1 1) ([(⟨5, (⟨#[]⟩ : ByteArray), 0, ([] : List S36)⟩ : S36)] : List S36), Blk b34 [.int .i64 y29.1.f0, .int .i64 y29.1.f1, .slice A31 y29.1.f2.length c32] 24, Row k24 24 (.slice A31 y29.1.f2.length c32) y29.1.f2, Blk b28 [.int .i64 y23.1.f0, .int .i64 y23.1.f1, .slice A25 y23.1.f2.length c26] 24]) [2, 3, 4, 5, 6] 7 rfl rfl rfl) ?_
      refine TA.not 26 rfl (by kernel_rfl) rfl (PQ.then_ PQ.body) (Wt.no rfl rfl rfl rfl) (fun W hO => (hb349 _ _ (hb364 _ _ hO)).selT (Ls := [Row k24 24 (.slice A3 y1.f2.length c4) y1.f2, Row k36 36 (.slice (some ⟨b14, 0, none⟩) 1 1) ([(⟨5, (⟨#[]⟩ : ByteArray), 0, ([] : List S36)⟩ : S36)] : List S36), Blk b34 [.int .i64 y29.1.f0, .int .i64 y29.1.f1, .slice A31 y29.1.f2.length c32] 24, Row k24 24 (.slice A31 y29.1.f2.length c32) y29.1.f2, Blk b28 [.int .i64 y23.1.f0, .int .i64 y23.1.f1, .slice A25 y23.1.f2.length c26] 24]) [2, 3, 4, 5, 6] 7 rfl rfl rfl) ?_
      refine TA.not 27 rfl (by kernel_rfl) rfl (PQ.then_ PQ.body) (Wt.no rfl rfl rfl rfl) (fun W hO => (hb349 _ _ (hb364 _ _ hO)).selT (Ls := [Row k24 24 (.slice A3 y1.f2.length c4) y1.f2, Row k36 36 (.slice (some ⟨b14, 0, none⟩) 1 1) ([(⟨5, (⟨#[]⟩ : ByteArray), 0, ([] : List S36)⟩ : S36)] : List S36), Blk b34 [.int .i64 y29.1.f0, .int .i64 y29.1.f1, .slice A31 y29.1.f2.length c32] 24, Row k24 24 (.slice A31 y29.1.f2.length c32) y29.1.f2, Blk b28 [.int .i64 y23.1.f0, .int .i64 y23.1.f1, .slice A25 y23.1.f2.length c26] 24]) [2, 3, 4, 5, 6] 7 rfl rfl rfl) ?_
      refine TA.take 28 rfl (by kernel_rfl) rfl (PQ.then_ PQ.body) rfl (Val.pickN rfl rfl rfl) (fun W hO => (hb349 _ _ (hb364 _ _ hO)).selT (Ls := [Row k24 24 (.slice A3 y1.f2.length c4) y1.f2, Row k36 36 (.slice (some ⟨b14, 0, none⟩) 1 1) ([(⟨5, (⟨#[]⟩ : ByteArray), 0, ([] : List S36)⟩ : S36)] : List S36), Blk b34 [.int .i64 y29.1.f0, .int .i64 y29.1.f1, .slice A31 y29.1.f2.length c32] 24, Row k24 24 (.slice A31 y29.1.f2.length c32) y29.1.f2, Blk b28 [.int .i64 y23.1.f0, .int .i64 y23.1.f1, .slice A25 y23.1.f2.length c26] 24]) [2, 3, 4, 5, 6] 7 rfl rfl rfl) ?_
      refine TA.take 29 rfl (by kernel_rfl) rfl (PQ.then_ PQ.body) rfl (Val.move rfl) (fun W hO => (hb349 _ _ (hb364 _ _ hO)).selT (Ls := [Row k24 24 (.slice A3 y1.f2.length c4) y1.f2, Row k36 36 (.slice (some ⟨b14, 0, none⟩) 1 1) ([(⟨5, (⟨#[]⟩ : ByteArray), 0, ([] : List S36)⟩ : S36)] : List S36), Blk b34 [.int .i64 y29.1.f0, .int .i64 y29.1.f1, .slice A31 y29.1.f2.length c32] 24, Row k24 24 (.slice A31 y29.1.f2.length c32) y29.1.f2, Blk b28 [.int .i64 y23.1.f0, .int .i64 y23.1.f1, .slice A25 y23.1.f2.length c26] 24]) [2, 3, 4, 5, 6] 7 rfl rfl rfl) ?_
      refine TA.not 30 rfl (by kernel_rfl) rfl (PQ.then_ PQ.body) (Wt.no rfl rfl rfl rfl) (fun W hO => (hb349 _ _ (hb364 _ _ hO)).selT (Ls := [Row k24 24 (.slice A3 y1.f2.length c4) y1.f2, Row k36 36 (.slice (some ⟨b14, 0, none⟩) 1 1) ([(⟨5, (⟨#[]⟩ : ByteArray), 0, ([] : List S36)⟩ : S36)] : List S36), Blk b34 [.int .i64 y29.1.f0, .int .i64 y29.1.f1, .slice A31 y29.1.f2.length c32] 24, Row k24 24 (.slice A31 y29.1.f2.length c32) y29.1.f2, Blk b28 [.int .i64 y23.1.f0, .int .i64 y23.1.f1, .slice A25 y23.1.f2.length c26] 24]) [2, 3, 4, 5, 6] 7 rfl rfl rfl) ?_
      refine TA.not 31 rfl (by kernel_rfl) rfl (PQ.then_ PQ.body) (Wt.no rfl rfl rfl rfl) (fun W hO => (hb349 _ _ (hb364 _ _ hO)).selT (Ls := [Row k24 24 (.slice A3 y1.f2.length c4) y1.f2, Row k36 36 (.slice (some ⟨b14, 0, none⟩) 1 1) ([(⟨5, (⟨#[]⟩ : ByteArray), 0, ([] : List S36)⟩ : S36)] : List S36), Blk b34 [.int .i64 y29.1.f0, .int .i64 y29.1.f1, .slice A31 y29.1.f2.length c32] 24, Row k24 24 (.slice A31 y29.1.f2.length c32) y29.1.f2, Blk b28 [.int .i64 y23.1.f0, .int .i64 y23.1.f1, .slice A25 y23.1.f2.length c26] 24]) [2, 3, 4, 5, 6] 7 rfl rfl rfl) ?_
      refine TA.take 32 rfl (by kernel_rfl) rfl (PQ.then_ PQ.body) rfl (Val.pickN rfl rfl rfl) (fun W hO => (hb349 _ _ (hb364 _ _ hO)).selT (Ls := [Row k24 24 (.slice A3 y1.f2.length c4) y1.f2, Row k36 36 (.slice (some ⟨b14, 0, none⟩) 1 1) ([(⟨5, (⟨#[]⟩ : ByteArray), 0, ([] : List S36)⟩ : S36)] : List S36), Blk b34 [.int .i64 y29.1.f0, .int .i64 y29.1.f1, .slice A31 y29.1.f2.length c32] 24, Row k24 24 (.slice A31 y29.1.f2.length c32) y29.1.f2, Blk b28 [.int .i64 y23.1.f0, .int .i64 y23.1.f1, .slice A25 y23.1.f2.length c26] 24]) [2, 3, 4, 5, 6] 7 rfl rfl rfl) ?_
      refine TA.take 33 rfl (by kernel_rfl) rfl (PQ.then_ PQ.body) rfl (Val.move rfl) (fun W hO => (hb349 _ _ (hb364 _ _ hO)).selT (Ls := [Row k24 24 (.slice A3 y1.f2.length c4) y1.f2, Row k36 36 (.slice (some ⟨b14, 0, none⟩) 1 1) ([(⟨5, (⟨#[]⟩ : ByteArray), 0, ([] : List S36)⟩ : S36)] : List S36), Blk b34 [.int .i64 y29.1.f0, .int .i64 y29.1.f1, .slice A31 y29.1.f2.length c32] 24, Row k24 24 (.slice A31 y29.1.f2.length c32) y29.1.f2, Blk b28 [.int .i64 y23.1.f0, .int .i64 y23.1.f1, .slice A25 y23.1.f2.length c26] 24]) [2, 3, 4, 5, 6] 7 rfl rfl rfl) ?_
      refine TA.not 34 rfl (by kernel_rfl) rfl (PQ.then_ PQ.body) (Wt.no rfl rfl rfl rfl) (fun W hO => (hb349 _ _ (hb364 _ _ hO)).selT (Ls := [Row k24 24 (.slice A3 y1.f2.length c4) y1.f2, Row k36 36 (.slice (some ⟨b14, 0, none⟩) 1 1) ([(⟨5, (⟨#[]⟩ : ByteArray), 0, ([] : List S36)⟩ : S36)] : List S36), Blk b34 [.int .i64 y29.1.f0, .int .i64 y29.1.f1, .slice A31 y29.1.f2.length c32] 24, Row k24 24 (.slice A31 y29.1.f2.length c32) y29.1.f2, Blk b28 [.int .i64 y23.1.f0, .int .i64 y23.1.f1, .slice A25 y23.1.f2.length c26] 24]) [2, 3, 4, 5, 6] 7 rfl rfl rfl) ?_
      refine TA.not 35 rfl (by kernel_rfl) rfl (PQ.then_ PQ.body) (Wt.no rfl rfl rfl rfl) (fun W hO => (hb349 _ _ (hb364 _ _ hO)).selT (Ls := [Row k24 24 (.slice A3 y1.f2.length c4) y1.f2, Row k36 36 (.slice (some ⟨b14, 0, none⟩) 1 1) ([(⟨5, (⟨#[]⟩ : ByteArray), 0, ([] : List S36)⟩ : S36)] : List S36), Blk b34 [.int .i64 y29.1.f0, .int .i64 y29.1.f1, .slice A31 y29.1.f2.length c32] 24, Row k24 24 (.slice A31 y29.1.f2.length c32) y29.1.f2, Blk b28 [.int .i64 y23.1.f0, .int .i64 y23.1.f1, .slice A25 y23.1.f2.length c26] 24]) [2, 3, 4, 5, 6] 7 rfl rfl rfl) ?_
      refine TA.take 36 rfl (by kernel_rfl) rfl (PQ.then_ PQ.body) rfl (Val.pickN rfl rfl rfl) (fun W hO => (hb349 _ _ (hb364 _ _ hO)).selT (Ls := [Row k24 24 (.slice A3 y1.f2.length c4) y1.f2, Row k36 36 (.slice (some ⟨b14, 0, none⟩) 1 1) ([(⟨5, (⟨#[]⟩ : ByteArray), 0, ([] : List S36)⟩ : S36)] : List S36), Blk b34 [.int .i64 y29.1.f0, .int .i64 y29.1.f1, .slice A31 y29.1.f2.length c32] 24, Row k24 24 (.slice A31 y29.1.f2.length c32) y29.1.f2, Blk b28 [.int .i64 y23.1.f0, .int .i64 y23.1.f1, .slice A25 y23.1.f2.length c26] 24]) [2, 3, 4, 5, 6] 7 rfl rfl rfl) ?_
      refine TA.take 37 rfl (by kernel_rfl) rfl (PQ.then_ PQ.body) rfl (Val.move rfl) (fun W hO => (hb349 _ _ (hb364 _ _ hO)).selT (Ls := [Row k24 24 (.slice A3 y1.f2.length c4) y1.f2, Row k36 36 (.slice (some ⟨b14, 0, none⟩) 1 1) ([(⟨5, (⟨#[]⟩ : ByteArray), 0, ([] : List S36)⟩ : S36)] : List S36), Blk b34 [.int .i64 y29.1.f0, .int .i64 y29.1.f1, .slice A31 y29.1.f2.length c32] 24, Row k24 24 (.slice A31 y29.1.f2.length c32) y29.1.f2, Blk b28 [.int .i64 y23.1.f0, .int .i64 y23.1.f1, .slice A25 y23.1.f2.length c26] 24]) [2, 3, 4, 5, 6] 7 rfl rfl rfl) ?_
      refine TA.not 38 rfl (by kernel_rfl) rfl (PQ.then_ PQ.body) (Wt.no rfl rfl rfl rfl) (fun W hO => (hb349 _ _ (hb364 _ _ hO)).selT (Ls := [Row k24 24 (.slice A3 y1.f2.length c4) y1.f2, Row k36 36 (.slice (some ⟨b14, 0, none⟩) 1 1) ([(⟨5, (⟨#[]⟩ : ByteArray), 0, ([] : List S36)⟩ : S36)] : List S36), Blk b34 [.int .i64 y29.1.f0, .int .i64 y29.1.f1, .slice A31 y29.1.f2.length c32] 24, Row k24 24 (.slice A31 y29.1.f2.length c32) y29.1.f2, Blk b28 [.int .i64 y23.1.f0, .int .i64 y23.1.f1, .slice A25 y23.1.f2.length c26] 24]) [2, 3, 4, 5, 6] 7 rfl rfl rfl) ?_
      refine TA.not 39 rfl (by kernel_rfl) rfl (PQ.then_ PQ.body) (Wt.no rfl rfl rfl rfl) (fun W hO => (hb349 _ _ (hb364 _ _ hO)).selT (Ls := [Row k24 24 (.slice A3 y1.f2.length c4) y1.f2, Row k36 36 (.slice (some ⟨b14, 0, none⟩) 1 1) ([(⟨5, (⟨#[]⟩ : ByteArray), 0, ([] : List S36)⟩ : S36)] : List S36), Blk b34 [.int .i64 y29.1.f0, .int .i64 y29.1.f1, .slice A31 y29.1.f2.length c32] 24, Row k24 24 (.slice A31 y29.1.f2.length c32) y29.1.f2, Blk b28 [.int .i64 y23.1.f0, .int .i64 y23.1.f1, .slice A25 y23.1.f2.length c26] 24]) [2, 3, 4, 5, 6] 7 rfl rfl rfl) ?_
      refine TA.not 40 rfl (by kernel_rfl) rfl (PQ.then_ PQ.body) (Wt.no rfl rfl rfl rfl) (fun W hO => (hb349 _ _ (hb364 _ _ hO)).selT (Ls := [Row k24 24 (.slice A3 y1.f2.length c4) y1.f2, Row k36 36 (.slice (some ⟨b14, 0, none⟩) 1 1) ([(⟨5, (⟨#[]⟩ : ByteArray), 0, ([] : List S36)⟩ : S36)] : List S36), Blk b34 [.int .i64 y29.1.f0, .int .i64 y29.1.f1, .slice A31 y29.1.f2.length c32] 24, Row k24 24 (.slice A31 y29.1.f2.length c32) y29.1.f2, Blk b28 [.int .i64 y23.1.f0, .int .i64 y23.1.f1, .slice A25 y23.1.f2.length c26] 24]) [2, 3, 4, 5, 6] 7 rfl rfl rfl) ?_
      refine TA.take 41 rfl (by kernel_rfl) rfl (PQ.then_ PQ.body) rfl (Val.pickN rfl rfl rfl) (fun W hO => (hb349 _ _ (hb364 _ _ hO)).selT (Ls := [Row k24 24 (.slice A3 y1.f2.length c4) y1.f2, Row k36 36 (.slice (some ⟨b14, 0, none⟩) 1 1) ([(⟨5, (⟨#[]⟩ : ByteArray), 0, ([] : List S36)⟩ : S36)] : List S36), Blk b34 [.int .i64 y29.1.f0, .int .i64 y29.1.f1, .slice A31 y29.1.f2.length c32] 24, Row k24 24 (.slice A31 y29.1.f2.length c32) y29.1.f2, Blk b28 [.int .i64 y23.1.f0, .int .i64 y23.1.f1, .slice A25 y23.1.f2.length c26] 24]) [2, 3, 4, 5, 6] 7 rfl rfl rfl) ?_
      refine TA.take 42 rfl (by kernel_rfl) rfl (PQ.then_ PQ.body) rfl (Val.assign rfl) (fun W hO => (hb349 _ _ (hb364 _ _ hO)).selT (Ls := [Row k24 24 (.slice A3 y1.f2.length c4) y1.f2, Row k36 36 (.slice (some ⟨b14, 0, none⟩) 1 1) ([(⟨5, (⟨#[]⟩ : ByteArray), 0, ([] : List S36)⟩ : S36)] : List S36), Blk b34 [.int .i64 y29.1.f0, .int .i64 y29.1.f1, .slice A31 y29.1.f2.length c32] 24, Row k24 24 (.slice A31 y29.1.f2.length c32) y29.1.f2, Blk b28 [.int .i64 y23.1.f0, .int .i64 y23.1.f1, .slice A25 y23.1.f2.length c26] 24]) [2, 3, 4, 5, 6] 7 rfl rfl rfl) ?_
      refine TA.done (by kernel_rfl) ?_
      refine TQ.then_ ?_
      refine TC.ret ?_
      refine TQ.back hb364 ?_
      refine TQ.back hb349 ?_
      refine TQ.back hb338 ?_
      obtain rfl := Option.some.inj h
      exact TQ.fin (.inl rfl) rfl Tryd.results7 (.tmp rfl .nil) rfl (FRel.mk (Ls := []) [] 8 (Gd.le.refl _) rfl rfl rfl ⟨rfl, rfl, rfl⟩)
  · have hk434 : y352 = false := (by simpa using hg354)
    refine TA.not 3 rfl (by kernel_rfl) rfl (PQ.then_ PQ.body) (Wt.no rfl rfl rfl hk434) (fun W hO => (hb349 _ _ hO).selT (Ls := [Row k24 24 (.slice A3 y1.f2.length c4) y1.f2, Row k36 36 (.slice (some ⟨b14, 0, none⟩) 1 1) ([(⟨5, (⟨#[]⟩ : ByteArray), 0, ([] : List S36)⟩ : S36)] : List S36), Blk b34 [.int .i64 y29.1.f0, .int .i64 y29.1.f1, .slice A31 y29.1.f2.length c32] 24, Row k24 24 (.slice A31 y29.1.f2.length c32) y29.1.f2, Blk b28 [.int .i64 y23.1.f0, .int .i64 y23.1.f1, .slice A25 y23.1.f2.length c26] 24]) [1, 2, 3, 4, 5] 6 rfl rfl rfl) ?_
    refine TA.not 4 rfl (by kernel_rfl) rfl (PQ.then_ PQ.body) (Wt.no rfl rfl rfl hk434) (fun W hO => (hb349 _ _ hO).selT (Ls := [Row k24 24 (.slice A3 y1.f2.length c4) y1.f2, Row k36 36 (.slice (some ⟨b14, 0, none⟩) 1 1) ([(⟨5, (⟨#[]⟩ : ByteArray), 0, ([] : List S36)⟩ : S36)] : List S36), Blk b34 [.int .i64 y29.1.f0, .int .i64 y29.1.f1, .slice A31 y29.1.f2.length c32] 24, Row k24 24 (.slice A31 y29.1.f2.length c32) y29.1.f2, Blk b28 [.int .i64 y23.1.f0, .int .i64 y23.1.f1, .slice A25 y23.1.f2.length c26] 24]) [1, 2, 3, 4, 5] 6 rfl rfl rfl) ?_
    refine TA.not 5 rfl (by kernel_rfl) rfl (PQ.then_ PQ.body) (Wt.no rfl rfl rfl hk434) (fun W hO => (hb349 _ _ hO).selT (Ls := [Row k24 24 (.slice A3 y1.f2.length c4) y1.f2, Row k36 36 (.slice (some ⟨b14, 0, none⟩) 1 1) ([(⟨5, (⟨#[]⟩ : ByteArray), 0, ([] : List S36)⟩ : S36)] : List S36), Blk b34 [.int .i64 y29.1.f0, .int .i64 y29.1.f1, .slice A31 y29.1.f2.length c32] 24, Row k24 24 (.slice A31 y29.1.f2.length c32) y29.1.f2, Blk b28 [.int .i64 y23.1.f0, .int .i64 y23.1.f1, .slice A25 y23.1.f2.length c26] 24]) [1, 2, 3, 4, 5] 6 rfl rfl rfl) ?_
    refine TA.take 6 rfl (by kernel_rfl) rfl (PQ.then_ PQ.body) rfl (Val.pickN rfl hk434 rfl) (fun W hO => (hb349 _ _ hO).selT (Ls := [Row k24 24 (.slice A3 y1.f2.length c4) y1.f2, Row k36 36 (.slice (some ⟨b14, 0, none⟩) 1 1) ([(⟨5, (⟨#[]⟩ : ByteArray), 0, ([] : List S36)⟩ : S36)] : List S36), Blk b34 [.int .i64 y29.1.f0, .int .i64 y29.1.f1, .slice A31 y29.1.f2.length c32] 24, Row k24 24 (.slice A31 y29.1.f2.length c32) y29.1.f2, Blk b28 [.int .i64 y23.1.f0, .int .i64 y23.1.f1, .slice A25 y23.1.f2.length c26] 24]) [1, 2, 3, 4, 5] 6 rfl rfl rfl) ?_
    refine TA.take 7 rfl (by kernel_rfl) rfl (PQ.then_ PQ.body) rfl (Val.move rfl) (fun W hO => (hb349 _ _ hO).selT (Ls := [Row k24 24 (.slice A3 y1.f2.length c4) y1.f2, Row k36 36 (.slice (some ⟨b14, 0, none⟩) 1 1) ([(⟨5, (⟨#[]⟩ : ByteArray), 0, ([] : List S36)⟩ : S36)] : List S36), Blk b34 [.int .i64 y29.1.f0, .int .i64 y29.1.f1, .slice A31 y29.1.f2.length c32] 24, Row k24 24 (.slice A31 y29.1.f2.length c32) y29.1.f2, Blk b28 [.int .i64 y23.1.f0, .int .i64 y23.1.f1, .slice A25 y23.1.f2.length c26] 24]) [1, 2, 3, 4, 5] 6 rfl rfl rfl) ?_
    refine TA.not 8 rfl (by kernel_rfl) rfl (PQ.then_ PQ.body) (Wt.no rfl rfl rfl rfl) (fun W hO => (hb349 _ _ hO).selT (Ls := [Row k24 24 (.slice A3 y1.f2.length c4) y1.f2, Row k36 36 (.slice (some ⟨b14, 0, none⟩) 1 1) ([(⟨5, (⟨#[]⟩ : ByteArray), 0, ([] : List S36)⟩ : S36)] : List S36), Blk b34 [.int .i64 y29.1.f0, .int .i64 y29.1.f1, .slice A31 y29.1.f2.length c32] 24, Row k24 24 (.slice A31 y29.1.f2.length c32) y29.1.f2, Blk b28 [.int .i64 y23.1.f0, .int .i64 y23.1.f1, .slice A25 y23.1.f2.length c26] 24]) [1, 2, 3, 4, 5] 6 rfl rfl rfl) ?_
    refine TA.not 9 rfl (by kernel_rfl) rfl (PQ.then_ PQ.body) (Wt.no rfl rfl rfl rfl) (fun W hO => (hb349 _ _ hO).selT (Ls := [Row k24 24 (.slice A3 y1.f2.length c4) y1.f2, Row k36 36 (.slice (some ⟨b14, 0, none⟩) 1 1) ([(⟨5, (⟨#[]⟩ : ByteArray), 0, ([] : List S36)⟩ : S36)] : List S36), Blk b34 [.int .i64 y29.1.f0, .int .i64 y29.1.f1, .slice A31 y29.1.f2.length c32] 24, Row k24 24 (.slice A31 y29.1.f2.length c32) y29.1.f2, Blk b28 [.int .i64 y23.1.f0, .int .i64 y23.1.f1, .slice A25 y23.1.f2.length c26] 24]) [1, 2, 3, 4, 5] 6 rfl rfl rfl) ?_
    refine TA.take 10 rfl (by kernel_rfl) rfl (PQ.then_ PQ.body) rfl (Val.pickN rfl rfl rfl) (fun W hO => (hb349 _ _ hO).selT (Ls := [Row k24 24 (.slice A3 y1.f2.length c4) y1.f2, Row k36 36 (.slice (some ⟨b14, 0, none⟩) 1 1) ([(⟨5, (⟨#[]⟩ : ByteArray), 0, ([] : List S36)⟩ : S36)] : List S36), Blk b34 [.int .i64 y29.1.f0, .int .i64 y29.1.f1, .slice A31 y29.1.f2.length c32] 24, Row k24 24 (.slice A31 y29.1.f2.length c32) y29.1.f2, Blk b28 [.int .i64 y23.1.f0, .int .i64 y23.1.f1, .slice A25 y23.1.f2.length c26] 24]) [1, 2, 3, 4, 5] 6 rfl rfl rfl) ?_
    refine TA.take 11 rfl (by kernel_rfl) rfl (PQ.then_ PQ.body) rfl (Val.move rfl) (fun W hO => (hb349 _ _ hO).selT (Ls := [Row k24 24 (.slice A3 y1.f2.length c4) y1.f2, Row k36 36 (.slice (some ⟨b14, 0, none⟩) 1 1) ([(⟨5, (⟨#[]⟩ : ByteArray), 0, ([] : List S36)⟩ : S36)] : List S36), Blk b34 [.int .i64 y29.1.f0, .int .i64 y29.1.f1, .slice A31 y29.1.f2.length c32] 24, Row k24 24 (.slice A31 y29.1.f2.length c32) y29.1.f2, Blk b28 [.int .i64 y23.1.f0, .int .i64 y23.1.f1, .slice A25 y23.1.f2.length c26] 24]) [1, 2, 3, 4, 5] 6 rfl rfl rfl) ?_
    refine TA.not 12 rfl (by kernel_rfl) rfl (PQ.then_ PQ.body) (Wt.no rfl rfl rfl rfl) (fun W hO => (hb349 _ _ hO).selT (Ls := [Row k24 24 (.slice A3 y1.f2.length c4) y1.f2, Row k36 36 (.slice (some ⟨b14, 0, none⟩) 1 1) ([(⟨5, (⟨#[]⟩ : ByteArray), 0, ([] : List S36)⟩ : S36)] : List S36), Blk b34 [.int .i64 y29.1.f0, .int .i64 y29.1.f1, .slice A31 y29.1.f2.length c32] 24, Row k24 24 (.slice A31 y29.1.f2.length c32) y29.1.f2, Blk b28 [.int .i64 y23.1.f0, .int .i64 y23.1.f1, .slice A25 y23.1.f2.length c26] 24]) [1, 2, 3, 4, 5] 6 rfl rfl rfl) ?_
    refine TA.take 13 rfl (by kernel_rfl) rfl (PQ.then_ PQ.body) rfl (Val.pickN rfl rfl rfl) (fun W hO => (hb349 _ _ hO).selT (Ls := [Row k24 24 (.slice A3 y1.f2.length c4) y1.f2, Row k36 36 (.slice (some ⟨b14, 0, none⟩) 1 1) ([(⟨5, (⟨#[]⟩ : ByteArray), 0, ([] : List S36)⟩ : S36)] : List S36), Blk b34 [.int .i64 y29.1.f0, .int .i64 y29.1.f1, .slice A31 y29.1.f2.length c32] 24, Row k24 24 (.slice A31 y29.1.f2.length c32) y29.1.f2, Blk b28 [.int .i64 y23.1.f0, .int .i64 y23.1.f1, .slice A25 y23.1.f2.length c26] 24]) [1, 2, 3, 4, 5] 6 rfl rfl rfl) ?_
    refine TA.take 14 rfl (by kernel_rfl) rfl (PQ.then_ PQ.body) rfl (Val.move rfl) (fun W hO => (hb349 _ _ hO).selT (Ls := [Row k24 24 (.slice A3 y1.f2.length c4) y1.f2, Row k36 36 (.slice (some ⟨b14, 0, none⟩) 1 1) ([(⟨5, (⟨#[]⟩ : ByteArray), 0, ([] : List S36)⟩ : S36)] : List S36), Blk b34 [.int .i64 y29.1.f0, .int .i64 y29.1.f1, .slice A31 y29.1.f2.length c32] 24, Row k24 24 (.slice A31 y29.1.f2.length c32) y29.1.f2, Blk b28 [.int .i64 y23.1.f0, .int .i64 y23.1.f1, .slice A25 y23.1.f2.length c26] 24]) [1, 2, 3, 4, 5] 6 rfl rfl rfl) ?_
    refine TA.not 15 rfl (by kernel_rfl) rfl (PQ.then_ PQ.body) (Wt.no rfl rfl rfl rfl) (fun W hO => (hb349 _ _ hO).selT (Ls := [Row k24 24 (.slice A3 y1.f2.length c4) y1.f2, Row k36 36 (.slice (some ⟨b14, 0, none⟩) 1 1) ([(⟨5, (⟨#[]⟩ : ByteArray), 0, ([] : List S36)⟩ : S36)] : List S36), Blk b34 [.int .i64 y29.1.f0, .int .i64 y29.1.f1, .slice A31 y29.1.f2.length c32] 24, Row k24 24 (.slice A31 y29.1.f2.length c32) y29.1.f2, Blk b28 [.int .i64 y23.1.f0, .int .i64 y23.1.f1, .slice A25 y23.1.f2.length c26] 24]) [1, 2, 3, 4, 5] 6 rfl rfl rfl) ?_
    refine TA.not 16 rfl (by kernel_rfl) rfl (PQ.then_ PQ.body) (Wt.no rfl rfl rfl rfl) (fun W hO => (hb349 _ _ hO).selT (Ls := [Row k24 24 (.slice A3 y1.f2.length c4) y1.f2, Row k36 36 (.slice (some ⟨b14, 0, none⟩) 1 1) ([(⟨5, (⟨#[]⟩ : ByteArray), 0, ([] : List S36)⟩ : S36)] : List S36), Blk b34 [.int .i64 y29.1.f0, .int .i64 y29.1.f1, .slice A31 y29.1.f2.length c32] 24, Row k24 24 (.slice A31 y29.1.f2.length c32) y29.1.f2, Blk b28 [.int .i64 y23.1.f0, .int .i64 y23.1.f1, .slice A25 y23.1.f2.length c26] 24]) [1, 2, 3, 4, 5] 6 rfl rfl rfl) ?_
    refine TA.not 17 rfl (by kernel_rfl) rfl (PQ.then_ PQ.body) (Wt.no rfl rfl rfl rfl) (fun W hO => (hb349 _ _ hO).selT (Ls := [Row k24 24 (.slice A3 y1.f2.length c4) y1.f2, Row k36 36 (.slice (some ⟨b14, 0, none⟩) 1 1) ([(⟨5, (⟨#[]⟩ : ByteArray), 0, ([] : List S36)⟩ : S36)] : List S36), Blk b34 [.int .i64 y29.1.f0, .int .i64 y29.1.f1, .slice A31 y29.1.f2.length c32] 24, Row k24 24 (.slice A31 y29.1.f2.length c32) y29.1.f2, Blk b28 [.int .i64 y23.1.f0, .int .i64 y23.1.f1, .slice A25 y23.1.f2.length c26] 24]) [1, 2, 3, 4, 5] 6 rfl rfl rfl) ?_
    refine TA.take 18 rfl (by kernel_rfl) rfl (PQ.then_ PQ.body) rfl (Val.pickN rfl rfl rfl) (fun W hO => (hb349 _ _ hO).selT (Ls := [Row k24 24 (.slice A3 y1.f2.length c4) y1.f2, Row k36 36 (.slice (some ⟨b14, 0, none⟩) 1 1) ([(⟨5, (⟨#[]⟩ : ByteArray), 0, ([] : List S36)⟩ : S36)] : List S36), Blk b34 [.int .i64 y29.1.f0, .int .i64 y29.1.f1, .slice A31 y29.1.f2.length c32] 24, Row k24 24 (.slice A31 y29.1.f2.length c32) y29.1.f2, Blk b28 [.int .i64 y23.1.f0, .int .i64 y23.1.f1, .slice A25 y23.1.f2.length c26] 24]) [1, 2, 3, 4, 5] 6 rfl rfl rfl) ?_
    refine TA.take 19 rfl (by kernel_rfl) rfl (PQ.then_ PQ.body) rfl (Val.move rfl) (fun W hO => (hb349 _ _ hO).selT (Ls := [Row k24 24 (.slice A3 y1.f2.length c4) y1.f2, Row k36 36 (.slice (some ⟨b14, 0, none⟩) 1 1) ([(⟨5, (⟨#[]⟩ : ByteArray), 0, ([] : List S36)⟩ : S36)] : List S36), Blk b34 [.int .i64 y29.1.f0, .int .i64 y29.1.f1, .slice A31 y29.1.f2.length c32] 24, Row k24 24 (.slice A31 y29.1.f2.length c32) y29.1.f2, Blk b28 [.int .i64 y23.1.f0, .int .i64 y23.1.f1, .slice A25 y23.1.f2.length c26] 24]) [1, 2, 3, 4, 5] 6 rfl rfl rfl) ?_
    refine TA.not 20 rfl (by kernel_rfl) rfl (PQ.then_ PQ.body) (Wt.no rfl rfl rfl rfl) (fun W hO => (hb349 _ _ hO).selT (Ls := [Row k24 24 (.slice A3 y1.f2.length c4) y1.f2, Row k36 36 (.slice (some ⟨b14, 0, none⟩) 1 1) ([(⟨5, (⟨#[]⟩ : ByteArray), 0, ([] : List S36)⟩ : S36)] : List S36), Blk b34 [.int .i64 y29.1.f0, .int .i64 y29.1.f1, .slice A31 y29.1.f2.length c32] 24, Row k24 24 (.slice A31 y29.1.f2.length c32) y29.1.f2, Blk b28 [.int .i64 y23.1.f0, .int .i64 y23.1.f1, .slice A25 y23.1.f2.length c26] 24]) [1, 2, 3, 4, 5] 6 rfl rfl rfl) ?_
    refine TA.not 21 rfl (by kernel_rfl) rfl (PQ.then_ PQ.body) (Wt.no rfl rfl rfl rfl) (fun W hO => (hb349 _ _ hO).selT (Ls := [Row k24 24 (.slice A3 y1.f2.length c4) y1.f2, Row k36 36 (.slice (some ⟨b14, 0, none⟩) 1 1) ([(⟨5, (⟨#[]⟩ : ByteArray), 0, ([] : List S36)⟩ : S36)] : List S36), Blk b34 [.int .i64 y29.1.f0, .int .i64 y29.1.f1, .slice A31 y29.1.f2.length c32] 24, Row k24 24 (.slice A31 y29.1.f2.length c32) y29.1.f2, Blk b28 [.int .i64 y23.1.f0, .int .i64 y23.1.f1, .slice A25 y23.1.f2.length c26] 24]) [1, 2, 3, 4, 5] 6 rfl rfl rfl) ?_
    refine TA.take 22 rfl (by kernel_rfl) rfl (PQ.then_ PQ.body) rfl (Val.pickN rfl rfl rfl) (fun W hO => (hb349 _ _ hO).selT (Ls := [Row k24 24 (.slice A3 y1.f2.length c4) y1.f2, Row k36 36 (.slice (some ⟨b14, 0, none⟩) 1 1) ([(⟨5, (⟨#[]⟩ : ByteArray), 0, ([] : List S36)⟩ : S36)] : List S36), Blk b34 [.int .i64 y29.1.f0, .int .i64 y29.1.f1, .slice A31 y29.1.f2.length c32] 24, Row k24 24 (.slice A31 y29.1.f2.length c32) y29.1.f2, Blk b28 [.int .i64 y23.1.f0, .int .i64 y23.1.f1, .slice A25 y23.1.f2.length c26] 24]) [1, 2, 3, 4, 5] 6 rfl rfl rfl) ?_
    refine TA.take 23 rfl (by kernel_rfl) rfl (PQ.then_ PQ.body) rfl (Val.move rfl) (fun W hO => (hb349 _ _ hO).selT (Ls := [Row k24 24 (.slice A3 y1.f2.length c4) y1.f2, Row k36 36 (.slice (some ⟨b14, 0, none⟩) 1 1) ([(⟨5, (⟨#[]⟩ : ByteArray), 0, ([] : List S36)⟩ : S36)] : List S36), Blk b34 [.int .i64 y29.1.f0, .int .i64 y29.1.f1, .slice A31 y29.1.f2.length c32] 24, Row k24 24 (.slice A31 y29.1.f2.length c32) y29.1.f2, Blk b28 [.int .i64 y23.1.f0, .int .i64 y23.1.f1, .slice A25 y23.1.f2.length c26] 24]) [1, 2, 3, 4, 5] 6 rfl rfl rfl) ?_
    refine TA.not 24 rfl (by kernel_rfl) rfl (PQ.then_ PQ.body) (Wt.no rfl rfl rfl rfl) (fun W hO => (hb349 _ _ hO).selT (Ls := [Row k24 24 (.slice A3 y1.f2.length c4) y1.f2, Row k36 36 (.slice (some ⟨b14, 0, none⟩) 1 1) ([(⟨5, (⟨#[]⟩ : ByteArray), 0, ([] : List S36)⟩ : S36)] : List S36), Blk b34 [.int .i64 y29.1.f0, .int .i64 y29.1.f1, .slice A31 y29.1.f2.length c32] 24, Row k24 24 (.slice A31 y29.1.f2.length c32) y29.1.f2, Blk b28 [.int .i64 y23.1.f0, .int .i64 y23.1.f1, .slice A25 y23.1.f2.length c26] 24]) [1, 2, 3, 4, 5] 6 rfl rfl rfl) ?_
    refine TA.not 25 rfl (by kernel_rfl) rfl (PQ.then_ PQ.body) (Wt.no rfl rfl rfl rfl) (fun W hO => (hb349 _ _ hO).selT (Ls := [Row k24 24 (.slice A3 y1.f2.length c4) y1.f2, Row k36 36 (.slice (some ⟨b14, 0, none⟩) 1 1) ([(⟨5, (⟨#[]⟩ : ByteArray), 0, ([] : List S36)⟩ : S36)] : List S36), Blk b34 [.int .i64 y29.1.f0, .int .i64 y29.1.f1, .slice A31 y29.1.f2.length c32] 24, Row k24 24 (.slice A31 y29.1.f2.length c32) y29.1.f2, Blk b28 [.int .i64 y23.1.f0, .int .i64 y23.1.f1, .slice A25 y23.1.f2.length c26] 24]) [1, 2, 3, 4, 5] 6 rfl rfl rfl) ?_
    refine TA.not 26 rfl (by kernel_rfl) rfl (PQ.then_ PQ.body) (Wt.no rfl rfl rfl rfl) (fun W hO => (hb349 _ _ hO).selT (Ls := [Row k24 24 (.slice A3 y1.f2.length c4) y1.f2, Row k36 36 (.slice (some ⟨b14, 0, none⟩) 1 1) ([(⟨5, (⟨#[]⟩ : ByteArray), 0, ([] : List S36)⟩ : S36)] : List S36), Blk b34 [.int .i64 y29.1.f0, .int .i64 y29.1.f1, .slice A31 y29.1.f2.length c32] 24, Row k24 24 (.slice A31 y29.1.f2.length c32) y29.1.f2, Blk b28 [.int .i64 y23.1.f0, .int .i64 y23.1.f1, .slice A25 y23.1.f2.length c26] 24]) [1, 2, 3, 4, 5] 6 rfl rfl rfl) ?_
    refine TA.not 27 rfl (by kernel_rfl) rfl (PQ.then_ PQ.body) (Wt.no rfl rfl rfl rfl) (fun W hO => (hb349 _ _ hO).selT (Ls := [Row k24 24 (.slice A3 y1.f2.length c4) y1.f2, Row k36 36 (.slice (some ⟨b14, 0, none⟩) 1 1) ([(⟨5, (⟨#[]⟩ : ByteArray), 0, ([] : List S36)⟩ : S36)] : List S36), Blk b34 [.int .i64 y29.1.f0, .int .i64 y29.1.f1, .slice A31 y29.1.f2.length c32] 24, Row k24 24 (.slice A31 y29.1.f2.length c32) y29.1.f2, Blk b28 [.int .i64 y23.1.f0, .int .i64 y23.1.f1, .slice A25 y23.1.f2.length c26] 24]) [1, 2, 3, 4, 5] 6 rfl rfl rfl) ?_
    refine TA.take 28 rfl (by kernel_rfl) rfl (PQ.then_ PQ.body) rfl (Val.pickN rfl rfl rfl) (fun W hO => (hb349 _ _ hO).selT (Ls := [Row k24 24 (.slice A3 y1.f2.length c4) y1.f2, Row k36 36 (.slice (some ⟨b14, 0, none⟩) 1 1) ([(⟨5, (⟨#[]⟩ : ByteArray), 0, ([] : List S36)⟩ : S36)] : List S36), Blk b34 [.int .i64 y29.1.f0, .int .i64 y29.1.f1, .slice A31 y29.1.f2.length c32] 24, Row k24 24 (.slice A31 y29.1.f2.length c32) y29.1.f2, Blk b28 [.int .i64 y23.1.f0, .int .i64 y23.1.f1, .slice A25 y23.1.f2.length c26] 24]) [1, 2, 3, 4, 5] 6 rfl rfl rfl) ?_
    refine TA.take 29 rfl (by kernel_rfl) rfl (PQ.then_ PQ.body) rfl (Val.move rfl) (fun W hO => (hb349 _ _ hO).selT (Ls := [Row k24 24 (.slice A3 y1.f2.length c4) y1.f2, Row k36 36 (.slice (some ⟨b14, 0, none⟩) 1 1) ([(⟨5, (⟨#[]⟩ : ByteArray), 0, ([] : List S36)⟩ : S36)] : List S36), Blk b34 [.int .i64 y29.1.f0, .int .i64 y29.1.f1, .slice A31 y29.1.f2.length c32] 24, Row k24 24 (.slice A31 y29.1.f2.length c32) y29.1.f2, Blk b28 [.int .i64 y23.1.f0, .int .i64 y23.1.f1, .slice A25 y23.1.f2.length c26] 24]) [1, 2, 3, 4, 5] 6 rfl rfl rfl) ?_
    refine TA.not 30 rfl (by kernel_rfl) rfl (PQ.then_ PQ.body) (Wt.no rfl rfl rfl rfl) (fun W hO => (hb349 _ _ hO).selT (Ls := [Row k24 24 (.slice A3 y1.f2.length c4) y1.f2, Row k36 36 (.slice (some ⟨b14, 0, none⟩) 1 1) ([(⟨5, (⟨#[]⟩ : ByteArray), 0, ([] : List S36)⟩ : S36)] : List S36), Blk b34 [.int .i64 y29.1.f0, .int .i64 y29.1.f1, .slice A31 y29.1.f2.length c32] 24, Row k24 24 (.slice A31 y29.1.f2.length c32) y29.1.f2, Blk b28 [.int .i64 y23.1.f0, .int .i64 y23.1.f1, .slice A25 y23.1.f2.length c26] 24]) [1, 2, 3, 4, 5] 6 rfl rfl rfl) ?_
    refine TA.not 31 rfl (by kernel_rfl) rfl (PQ.then_ PQ.body) (Wt.no rfl rfl rfl rfl) (fun W hO => (hb349 _ _ hO).selT (Ls := [Row k24 24 (.slice A3 y1.f2.length c4) y1.f2, Row k36 36 (.slice (some ⟨b14, 0, none⟩) 1 1) ([(⟨5, (⟨#[]⟩ : ByteArray), 0, ([] : List S36)⟩ : S36)] : List S36), Blk b34 [.int .i64 y29.1.f0, .int .i64 y29.1.f1, .slice A31 y29.1.f2.length c32] 24, Row k24 24 (.slice A31 y29.1.f2.length c32) y29.1.f2, Blk b28 [.int .i64 y23.1.f0, .int .i64 y23.1.f1, .slice A25 y23.1.f2.length c26] 24]) [1, 2, 3, 4, 5] 6 rfl rfl rfl) ?_
    refine TA.take 32 rfl (by kernel_rfl) rfl (PQ.then_ PQ.body) rfl (Val.pickN rfl rfl rfl) (fun W hO => (hb349 _ _ hO).selT (Ls := [Row k24 24 (.slice A3 y1.f2.length c4) y1.f2, Row k36 36 (.slice (some ⟨b14, 0, none⟩) 1 1) ([(⟨5, (⟨#[]⟩ : ByteArray), 0, ([] : List S36)⟩ : S36)] : List S36), Blk b34 [.int .i64 y29.1.f0, .int .i64 y29.1.f1, .slice A31 y29.1.f2.length c32] 24, Row k24 24 (.slice A31 y29.1.f2.length c32) y29.1.f2, Blk b28 [.int .i64 y23.1.f0, .int .i64 y23.1.f1, .slice A25 y23.1.f2.length c26] 24]) [1, 2, 3, 4, 5] 6 rfl rfl rfl) ?_
    refine TA.take 33 rfl (by kernel_rfl) rfl (PQ.then_ PQ.body) rfl (Val.move rfl) (fun W hO => (hb349 _ _ hO).selT (Ls := [Row k24 24 (.slice A3 y1.f2.length c4) y1.f2, Row k36 36 (.slice (some ⟨b14, 0, none⟩) 1 1) ([(⟨5, (⟨#[]⟩ : ByteArray), 0, ([] : List S36)⟩ : S36)] : List S36), Blk b34 [.int .i64 y29.1.f0, .int .i64 y29.1.f1, .slice A31 y29.1.f2.length c32] 24, Row k24 24 (.slice A31 y29.1.f2.length c32) y29.1.f2, Blk b28 [.int .i64 y23.1.f0, .int .i64 y23.1.f1, .slice A25 y23.1.f2.length c26] 24]) [1, 2, 3, 4, 5] 6 rfl rfl rfl) ?_
    refine TA.not 34 rfl (by kernel_rfl) rfl (PQ.then_ PQ.body) (Wt.no rfl rfl rfl rfl) (fun W hO => (hb349 _ _ hO).selT (Ls := [Row k24 24 (.slice A3 y1.f2.length c4) y1.f2, Row k36 36 (.slice (some ⟨b14, 0, none⟩) 1 1) ([(⟨5, (⟨#[]⟩ : ByteArray), 0, ([] : List S36)⟩ : S36)] : List S36), Blk b34 [.int .i64 y29.1.f0, .int .i64 y29.1.f1, .slice A31 y29.1.f2.length c32] 24, Row k24 24 (.slice A31 y29.1.f2.length c32) y29.1.f2, Blk b28 [.int .i64 y23.1.f0, .int .i64 y23.1.f1, .slice A25 y23.1.f2.length c26] 24]) [1, 2, 3, 4, 5] 6 rfl rfl rfl) ?_
    refine TA.not 35 rfl (by kernel_rfl) rfl (PQ.then_ PQ.body) (Wt.no rfl rfl rfl rfl) (fun W hO => (hb349 _ _ hO).selT (Ls := [Row k24 24 (.slice A3 y1.f2.length c4) y1.f2, Row k36 36 (.slice (some ⟨b14, 0, none⟩) 1 1) ([(⟨5, (⟨#[]⟩ : ByteArray), 0, ([] : List S36)⟩ : S36)] : List S36), Blk b34 [.int .i64 y29.1.f0, .int .i64 y29.1.f1, .slice A31 y29.1.f2.length c32] 24, Row k24 24 (.slice A31 y29.1.f2.length c32) y29.1.f2, Blk b28 [.int .i64 y23.1.f0, .int .i64 y23.1.f1, .slice A25 y23.1.f2.length c26] 24]) [1, 2, 3, 4, 5] 6 rfl rfl rfl) ?_
    refine TA.take 36 rfl (by kernel_rfl) rfl (PQ.then_ PQ.body) rfl (Val.pickN rfl rfl rfl) (fun W hO => (hb349 _ _ hO).selT (Ls := [Row k24 24 (.slice A3 y1.f2.length c4) y1.f2, Row k36 36 (.slice (some ⟨b14, 0, none⟩) 1 1) ([(⟨5, (⟨#[]⟩ : ByteArray), 0, ([] : List S36)⟩ : S36)] : List S36), Blk b34 [.int .i64 y29.1.f0, .int .i64 y29.1.f1, .slice A31 y29.1.f2.length c32] 24, Row k24 24 (.slice A31 y29.1.f2.length c32) y29.1.f2, Blk b28 [.int .i64 y23.1.f0, .int .i64 y23.1.f1, .slice A25 y23.1.f2.length c26] 24]) [1, 2, 3, 4, 5] 6 rfl rfl rfl) ?_
    refine TA.take 37 rfl (by kernel_rfl) rfl (PQ.then_ PQ.body) rfl (Val.move rfl) (fun W hO => (hb349 _ _ hO).selT (Ls := [Row k24 24 (.slice A3 y1.f2.length c4) y1.f2, Row k36 36 (.slice (some ⟨b14, 0, none⟩) 1 1) ([(⟨5, (⟨#[]⟩ : ByteArray), 0, ([] : List S36)⟩ : S36)] : List S36), Blk b34 [.int .i64 y29.1.f0, .int .i64 y29.1.f1, .slice A31 y29.1.f2.length c32] 24, Row k24 24 (.slice A31 y29.1.f2.length c32) y29.1.f2, Blk b28 [.int .i64 y23.1.f0, .int .i64 y23.1.f1, .slice A25 y23.1.f2.length c26] 24]) [1, 2, 3, 4, 5] 6 rfl rfl rfl) ?_
    refine TA.not 38 rfl (by kernel_rfl) rfl (PQ.then_ PQ.body) (Wt.no rfl rfl rfl rfl) (fun W hO => (hb349 _ _ hO).selT (Ls := [Row k24 24 (.slice A3 y1.f2.length c4) y1.f2, Row k36 36 (.slice (some ⟨b14, 0, none⟩) 1 1) ([(⟨5, (⟨#[]⟩ : ByteArray), 0, ([] : List S36)⟩ : S36)] : List S36), Blk b34 [.int .i64 y29.1.f0, .int .i64 y29.1.f1, .slice A31 y29.1.f2.length c32] 24, Row k24 24 (.slice A31 y29.1.f2.length c32) y29.1.f2, Blk b28 [.int .i64 y23.1.f0, .int .i64 y23.1.f1, .slice A25 y23.1.f2.length c26] 24]) [1, 2, 3, 4, 5] 6 rfl rfl rfl) ?_
    refine TA.not 39 rfl (by kernel_rfl) rfl (PQ.then_ PQ.body) (Wt.no rfl rfl rfl rfl) (fun W hO => (hb349 _ _ hO).selT (Ls := [Row k24 24 (.slice A3 y1.f2.length c4) y1.f2, Row k36 36 (.slice (some ⟨b14, 0, none⟩) 1 1) ([(⟨5, (⟨#[]⟩ : ByteArray), 0, ([] : List S36)⟩ : S36)] : List S36), Blk b34 [.int .i64 y29.1.f0, .int .i64 y29.1.f1, .slice A31 y29.1.f2.length c32] 24, Row k24 24 (.slice A31 y29.1.f2.length c32) y29.1.f2, Blk b28 [.int .i64 y23.1.f0, .int .i64 y23.1.f1, .slice A25 y23.1.f2.length c26] 24]) [1, 2, 3, 4, 5] 6 rfl rfl rfl) ?_
    refine TA.not 40 rfl (by kernel_rfl) rfl (PQ.then_ PQ.body) (Wt.no rfl rfl rfl rfl) (fun W hO => (hb349 _ _ hO).selT (Ls := [Row k24 24 (.slice A3 y1.f2.length c4) y1.f2, Row k36 36 (.slice (some ⟨b14, 0, none⟩) 1 1) ([(⟨5, (⟨#[]⟩ : ByteArray), 0, ([] : List S36)⟩ : S36)] : List S36), Blk b34 [.int .i64 y29.1.f0, .int .i64 y29.1.f1, .slice A31 y29.1.f2.length c32] 24, Row k24 24 (.slice A31 y29.1.f2.length c32) y29.1.f2, Blk b28 [.int .i64 y23.1.f0, .int .i64 y23.1.f1, .slice A25 y23.1.f2.length c26] 24]) [1, 2, 3, 4, 5] 6 rfl rfl rfl) ?_
    refine TA.take 41 rfl (by kernel_rfl) rfl (PQ.then_ PQ.body) rfl (Val.pickN rfl rfl rfl) (fun W hO => (hb349 _ _ hO).selT (Ls := [Row k24 24 (.slice A3 y1.f2.length c4) y1.f2, Row k36 36 (.slice (some ⟨b14, 0, none⟩) 1 1) ([(⟨5, (⟨#[]⟩ : ByteArray), 0, ([] : List S36)⟩ : S36)] : List S36), Blk b34 [.int .i64 y29.1.f0, .int .i64 y29.1.f1, .slice A31 y29.1.f2.length c32] 24, Row k24 24 (.slice A31 y29.1.f2.length c32) y29.1.f2, Blk b28 [.int .i64 y23.1.f0, .int .i64 y23.1.f1, .slice A25 y23.1.f2.length c26] 24]) [1, 2, 3, 4, 5] 6 rfl rfl rfl) ?_
    refine TA.take 42 rfl (by kernel_rfl) rfl (PQ.then_ PQ.body) rfl (Val.assign rfl) (fun W hO => (hb349 _ _ hO).selT (Ls := [Row k24 24 (.slice A3 y1.f2.length c4) y1.f2, Row k36 36 (.slice (some ⟨b14, 0, none⟩) 1 1) ([(⟨5, (⟨#[]⟩ : ByteArray), 0, ([] : List S36)⟩ : S36)] : List S36), Blk b34 [.int .i64 y29.1.f0, .int .i64 y29.1.f1, .slice A31 y29.1.f2.length c32] 24, Row k24 24 (.slice A31 y29.1.f2.length c32) y29.1.f2, Blk b28 [.int .i64 y23.1.f0, .int .i64 y23.1.f1, .slice A25 y23.1.f2.length c26] 24]) [1, 2, 3, 4, 5] 6 rfl rfl rfl) ?_
    refine TA.done (by kernel_rfl) ?_
    refine TQ.then_ ?_
    refine TC.ret ?_
    refine TQ.back hb349 ?_
    refine TQ.back hb338 ?_
    obtain rfl := Option.some.inj h
    exact TQ.fin (.inl rfl) rfl Tryd.results7 (.tmp rfl .nil) rfl (FRel.mk (Ls := []) [] 7 (Gd.le.refl _) rfl rfl rfl ⟨rfl, rfl, rfl⟩)
end Go.Proofs.YtdklnjmdaecboaaDoor.Sy
namespace Go.Proofs.YtdklnjmdaecboaaDoor.Sy
open Go Go.RowKit Go.Proofs.YtdklnjmdaecboaaDoorW.PrintWords
theorem small_true : swagelaw11_small.f = some true := by decide +kernel
end Go.Proofs.YtdklnjmdaecboaaDoor.Sy
set_option linter.unusedVariables false
set_option linter.unusedSimpArgs false
set_option maxRecDepth 100000
set_option maxHeartbeats 4000000
namespace Go.Proofs.YtdklnjmdaecboaaDoor.Sy
open Go Go.RowKit Go.Proofs.YtdklnjmdaecboaaDoorW.PrintWords 
def swagelaw11_TypesLie.l0 (a0 : S24) (x51 : Int) : Nat → Int → Int → Option (Sum Bool (Int))
  | 0, _, _ => none
  | n407 + 1, x265, x266 => jn (γ := (Sum Bool (Int))) (fun (x589 : Bool) => (if x589 = true then (types_Offset.f a0 x266).bind fun (y657 : (Int × Bool)) => jn (γ := (Sum Bool (Int))) (fun (x662 : Bool) => (if x662 = true then some (.inl false) else (at? a0.f2 0).bind fun y666 => jn (γ := (Sum Bool (Int))) (fun (x694 : Int) (x695 : Int) (l696 : (List S24)) => (types_Size.f (⟨x694, x695, l696⟩ : S24)).bind fun (y702 : Int) => swagelaw11_TypesLie.l0 a0 x51 n407 (IntKind.i64.wrap (x265 + y702)) (IntKind.i64.wrap (x266 + 1))) (fun (j701 : (Int → Int → (List S24) → Option (Sum Bool (Int)))) => (if a0.f0 = 4 then (at? a0.f2 x266).bind fun y705 => j701 y705.f0 y705.f1 y705.f2 else j701 y666.f0 y666.f1 y666.f2)))) (fun (j663 : (Bool → Option (Sum Bool (Int)))) => (if (!y657.2) = true then j663 true else j663 (!decide (y657.1 = x265)))) else some (.inr x265))) (fun (j590 : (Bool → Option (Sum Bool (Int)))) => (if x266 < x51 then j590 (!decide (a0.f0 = 2)) else j590 false))
def swagelaw11_TypesLie.f (a0 : S24) (a1 : S24) : Option Bool := (swagelaw11_small.f).bind fun (y11 : Bool) => jn (γ := Bool) (fun (x20 : Bool) => jn (γ := Bool) (fun (x32 : Bool) => (if x32 = true then some y11 else (types_Text.f a0).bind fun (y42 : ByteArray) => (types_Text.f a1).bind fun (y44 : ByteArray) => (types_Same.f a0 a1).bind fun (y46 : Bool) => (if (!((y42.data.toList == y44.data.toList) == y46)) = true then some false else jn (γ := Bool) (fun (x51 : Int) => (swagelaw11_TypesLie.l0 a0 x51 (x51.toNat + 1) 0 0).bind fun | .inl q_ => some q_ | .inr x405 => (if y11 = true then (types_Size.f a0).bind fun (y568 : Int) => (if x405 ≤ y568 then (if (!decide (a0.f0 = 4)) = true then (types_Size.f a0).bind fun (y574 : Int) => some (decide (y574 ≤ 1048576)) else (types_Size.f a0).bind fun (y577 : Int) => (if x405 = y577 then (types_Size.f a0).bind fun (y581 : Int) => some (decide (y581 ≤ 1048576)) else some false)) else some false) else some false)) (fun (j52 : (Int → Option Bool)) => (if a0.f0 = 3 then j52 (if 100 < a0.f1 then 100 else a0.f1) else j52 (a0.f2.length : Int)))))) (fun (j33 : (Bool → Option Bool)) => (if (!x20) = true then j33 true else (types_Right.f a0).bind fun (y728 : Bool) => (if (!y728) = true then j33 true else (types_Right.f a1).bind fun (y733 : Bool) => j33 (!y733))))) (fun (j21 : (Bool → Option Bool)) => (swagelaw11_Few.f a0).bind fun (y735 : Bool) => (if y735 = true then (swagelaw11_Few.f a1).bind fun (y739 : Bool) => j21 y739 else j21 false))
def swagelaw11_TypesLie.post (G : Gd) (r : Bool) (v : Value) (G' : Gd) (Lr : List Ch) : Prop := G = G' ∧ v = .bool r ∧ Lr = []
theorem swagelaw11_TypesLie.calls {G : Gd} {r : Bool} {a0 : S24} {a1 : S24} {A1 : Option Addr} {c2 : Nat} {A5 : Option Addr} {c6 : Nat} (ht : Tab G) (hr3 : Rd G k24 A1 a0.f2) (hl4 : a0.f2.length ≤ c2) (hr7 : Rd G k24 A5 a1.f2) (hl8 : a1.f2.length ≤ c6) (h : swagelaw11_TypesLie.f a0 a1 = some r) : Fn Tryd.prog 5 G [] [.agg #[.int .i64 a0.f0, .int .i64 a0.f1, .slice A1 a0.f2.length c2], .agg #[.int .i64 a1.f0, .int .i64 a1.f1, .slice A5 a1.f2.length c6]] (swagelaw11_TypesLie.post G r) := by
  refine Fn.intro (e := [(0, .agg #[.int .i64 a0.f0, .int .i64 a0.f1, .slice A1 a0.f2.length c2]), (1, .agg #[.int .i64 a1.f0, .int .i64 a1.f1, .slice A5 a1.f2.length c6])]) 113 Tryd.func5 rfl Tryd.ntmps5 rfl rfl (Nat.le_of_ble_eq_true rfl) (fun L => ?_)
  unfold swagelaw11_TypesLie.f at h
  refine TC.seq ?_
  refine TC.region ?_
  refine TL.cons (TL.box (cs := [.int .i64 a0.f0, .int .i64 a0.f1, .slice A1 a0.f2.length c2]) rfl rfl rfl rfl (fun b9 => ?_))
  refine TL.cons (TL.box (cs := [.int .i64 a1.f0, .int .i64 a1.f1, .slice A5 a1.f2.length c6]) rfl rfl rfl rfl (fun b10 => ?_))
  refine TL.cons (TO.val rfl rfl rfl (Val.assign rfl) ?_)
  refine TL.nil ?_
  refine TQ.then_ ?_
  refine TC.seq ?_
  refine TC.region ?_
  obtain ⟨y11, hy12, h⟩ := bind_no h
  refine TL.cons (TL.callV (Lin := []) (args := []) rfl rfl rfl hbd7 rfl rfl (swagelaw11_small.calls ht hy12) rfl ?_)
  rintro _ _ _ _ ⟨rfl, rfl, rfl⟩
  refine TL.cons (TO.val rfl rfl rfl (Val.assign rfl) ?_)
  refine TL.nil ?_
  refine TQ.then_ ?_
  refine TC.seq ?_
  obtain ⟨j21, hj21, h⟩ := jn_no h
  refine TC.tail (fun a W => ∃ (x20 : Bool), j21 x20 = some r ∧ Fr 113 a [(2, .pointer (some ⟨b9, 0, none⟩)), (3, .pointer (some ⟨b10, 0, none⟩)), (5, .bool y11), (6, .bool x20)] ∧ Own G (Blk b10 [.int .i64 a1.f0, .int .i64 a1.f1, .slice A5 a1.f2.length c6] 24 :: Blk b9 [.int .i64 a0.f0, .int .i64 a0.f1, .slice A1 a0.f2.length c2] 24 :: L) W) ?_ ?_
  · rintro a W ⟨x20, h, hF, hO⟩
    rw [hj21] at h
    refine TQ.use ?_ hF hO
    clear hF hO
    refine TQ.then_ ?_
    refine TC.seq ?_
    refine TC.seq ?_
    obtain ⟨j33, hj33, h⟩ := jn_no h
    refine TC.tail (fun a W => ∃ (x32 : Bool), j33 x32 = some r ∧ Fr 113 a [(2, .pointer (some ⟨b9, 0, none⟩)), (3, .pointer (some ⟨b10, 0, none⟩)), (5, .bool y11), (31, .bool x32)] ∧ Own G (Blk b10 [.int .i64 a1.f0, .int .i64 a1.f1, .slice A5 a1.f2.length c6] 24 :: Blk b9 [.int .i64 a0.f0, .int .i64 a0.f1, .slice A1 a0.f2.length c2] 24 :: L) W) ?_ ?_
    · rintro a W ⟨x32, h, hF, hO⟩
      rw [hj33] at h
      refine TQ.use ?_ hF hO
      clear hF hO
      refine TQ.then_ ?_
      refine TC.cond_b rfl h (fun hc35 h => ?_) (fun hc35 h => ?_)
      · refine TC.seq ?_
        refine TC.region ?_
        refine TL.cons (TO.val rfl rfl rfl (Val.move rfl) ?_)
        refine TL.cons (TO.val rfl rfl rfl (Val.assign rfl) ?_)
        refine TL.nil ?_
        refine TQ.then_ ?_
        refine TC.ret ?_
        refine TQ.thenR ?_
        obtain rfl := Option.some.inj h
        exact TQ.fin (.inl rfl) rfl Tryd.results5 (.tmp rfl .nil) rfl (FRel.mk (Ls := []) [] 2 (Gd.le.refl _) rfl rfl rfl ⟨rfl, rfl, rfl⟩)
      · refine TC.skip ?_
        refine TQ.then_ ?_
        refine TC.seq ?_
        refine TC.seq ?_
        refine TC.regionAny [] [0, 2, 4, 5, 6, 8] mixed (by kernel_rfl) ?_
        refine TA.take 0 rfl (by kernel_rfl) rfl (PQ.then_ (PQ.then_ PQ.body)) rfl (Val.loadsB 1 (cs := [.int .i64 a0.f0, .int .i64 a0.f1, .slice A1 a0.f2.length c2]) agg24 fsz24 rfl rfl rfl rfl) (fun W hO => hO) ?_
        refine TA.take 2 rfl (by kernel_rfl) rfl (PQ.then_ (PQ.then_ PQ.body)) rfl (Val.loadsB 0 (cs := [.int .i64 a1.f0, .int .i64 a1.f1, .slice A5 a1.f2.length c6]) agg24 fsz24 rfl rfl rfl rfl) (fun W hO => hO) ?_
        refine TA.take 5 rfl (by kernel_rfl) rfl (PQ.then_ (PQ.then_ PQ.body)) rfl (Val.loadsB 1 (cs := [.int .i64 a0.f0, .int .i64 a0.f1, .slice A1 a0.f2.length c2]) agg24 fsz24 rfl rfl rfl rfl) (fun W hO => hO) ?_
        refine TA.take 6 rfl (by kernel_rfl) rfl (PQ.then_ (PQ.then_ PQ.body)) rfl (Val.loadsB 0 (cs := [.int .i64 a1.f0, .int .i64 a1.f1, .slice A5 a1.f2.length c6]) agg24 fsz24 rfl rfl rfl rfl) (fun W hO => hO) ?_
        obtain ⟨y42, hy43, h⟩ := bind_no h
        refine TA.eff 1 rfl (by kernel_rfl) rfl (TL.callV (Lin := []) (args := [.agg #[.int .i64 a0.f0, .int .i64 a0.f1, .slice A1 a0.f2.length c2]]) rfl rfl rfl hbd22 rfl rfl (types_Text.calls (a0 := a0) ht hr3 hl4 hy43) rfl ?_)
        rintro _ _ _ _ ⟨rfl, rfl, rfl⟩
        refine TA.next (fun W hO => hO) ?_
        obtain ⟨y44, hy45, h⟩ := bind_no h
        refine TA.eff 3 rfl (by kernel_rfl) rfl (TL.callV (Lin := []) (args := [.agg #[.int .i64 a1.f0, .int .i64 a1.f1, .slice A5 a1.f2.length c6]]) rfl rfl rfl hbd22 rfl rfl (types_Text.calls (a0 := a1) ht hr7 hl8 hy45) rfl ?_)
        rintro _ _ _ _ ⟨rfl, rfl, rfl⟩
        refine TA.next (fun W hO => hO) ?_
        refine TA.take 4 rfl (by kernel_rfl) rfl (PQ.then_ (PQ.then_ PQ.body)) rfl (Val.eqT rfl rfl) (fun W hO => hO) ?_
        obtain ⟨y46, hy47, h⟩ := bind_no h
        refine TA.eff 7 rfl (by kernel_rfl) rfl (TL.callV (Lin := []) (args := [.agg #[.int .i64 a0.f0, .int .i64 a0.f1, .slice A1 a0.f2.length c2], .agg #[.int .i64 a1.f0, .int .i64 a1.f1, .slice A5 a1.f2.length c6]]) rfl rfl rfl hbd19 rfl rfl (types_Same.calls (a0 := a0) (a1 := a1) hr3 hl4 hr7 hl8 hy47) rfl ?_)
        rintro _ _ _ _ ⟨rfl, rfl, rfl⟩
        refine TA.next (fun W hO => hO) ?_
        refine TA.take 8 rfl (by kernel_rfl) rfl (PQ.then_ (PQ.then_ PQ.body)) rfl (Val.neB Tryd.underlying4 rfl rfl) (fun W hO => hO) ?_
        refine TA.done (by kernel_rfl) ?_
        refine TQ.then_ ?_
        refine TC.cond_b rfl h (fun hc49 h => ?_) (fun hc49 h => ?_)
        · refine TC.seq ?_
          refine TC.region ?_
          refine TL.cons (TO.val rfl rfl rfl (Val.assign rfl) ?_)
          refine TL.nil ?_
          refine TQ.then_ ?_
          refine TC.ret ?_
          refine TQ.thenR ?_
          obtain rfl := Option.some.inj h
          exact TQ.fin (.inl rfl) rfl Tryd.results5 (.tmp rfl .nil) rfl (FRel.mk (Ls := []) [] 2 (Gd.le.refl _) rfl rfl rfl ⟨rfl, rfl, rfl⟩)
        · refine TC.skip ?_
          refine TQ.then_ ?_
          refine TC.seq ?_
          refine TC.region ?_
          refine TL.cons (TO.val rfl rfl rfl (Val.assign rfl) ?_)
          refine TL.nil ?_
          refine TQ.then_ ?_
          refine TC.seq ?_
          refine TC.region ?_
          refine TL.cons (TO.val rfl rfl rfl (Val.fieldAddrB Tryd.underlying24 rfl fsz22 rfl rfl rfl) ?_)
          refine TL.cons (TO.val rfl rfl rfl (Val.loadB 1 agg22 rfl rfl rfl) ?_)
          refine TL.cons (TO.val rfl rfl rfl (Val.len Tryd.underlying22 rfl) ?_)
          refine TL.cons (TO.val rfl rfl rfl (Val.assign rfl) ?_)
          refine TL.nil ?_
          refine TQ.then_ ?_
          refine TC.seq ?_
          refine TC.seq ?_
          refine TC.region ?_
          refine TL.cons (TO.val rfl rfl rfl (Val.fieldAddrB Tryd.underlying24 rfl fsz3 rfl rfl rfl) ?_)
          refine TL.cons (TO.val rfl rfl rfl (Val.loadB 1 agg3 rfl rfl rfl) ?_)
          refine TL.cons (TO.val rfl rfl rfl (Val.cmp rfl rfl run_eql) ?_)
          refine TL.nil ?_
          refine TQ.then_ ?_
          obtain ⟨j52, hj52, h⟩ := jn_no h
          refine TC.tail (fun a W => ∃ (x51 : Int), j52 x51 = some r ∧ Fr 113 a [(2, .pointer (some ⟨b9, 0, none⟩)), (5, .bool y11), (7, .int .i64 0), (8, .int .i64 x51)] ∧ Own G (Blk b9 [.int .i64 a0.f0, .int .i64 a0.f1, .slice A1 a0.f2.length c2] 24 :: L) W) ?_ ?_
          · rintro a W ⟨x51, h, hF, hO⟩
            rw [hj52] at h
            refine TQ.use ?_ hF hO
            clear hF hO
            refine TQ.then_ ?_
            refine TC.seq ?_
            refine TC.seq ?_
            refine TC.region ?_
            refine TL.cons (TO.val rfl rfl rfl (Val.assign rfl) ?_)
            refine TL.nil ?_
            refine TQ.then_ ?_
            obtain ⟨o406, ho406, ko406⟩ := bind_no h
            clear h
            refine TC.tail (fun a W => ∃ (x405 : Int), (.inr x405) = o406 ∧ Fr 113 a [(2, .pointer (some ⟨b9, 0, none⟩)), (5, .bool y11), (7, .int .i64 x405)] ∧ Own G (Blk b9 [.int .i64 a0.f0, .int .i64 a0.f1, .slice A1 a0.f2.length c2] 24 :: L) W) ?_ ?_
            · rintro a W ⟨x405, rfl, hF, hO⟩
              have h := ko406
              clear ko406 ho406
              refine TQ.use ?_ hF hO
              clear hF hO
              refine TQ.then_ ?_
              refine TC.seq ?_
              refine TC.region ?_
              refine TL.cons (TO.val rfl rfl rfl (Val.move rfl) ?_)
              refine TL.cons (TO.val rfl rfl rfl (Val.move rfl) ?_)
              refine TK.split (p := y11 = true) h (fun hg566 h => ?_) (fun hg566 h => ?_)
              · have hk567 : y11 = true := hg566
                refine TL.cons (TO.val (Wt.yes rfl rfl rfl hk567) rfl rfl (Val.move rfl) ?_)
                refine TL.cons (TO.val (Wt.yes rfl rfl rfl hk567) rfl rfl (Val.loadsB 0 (cs := [.int .i64 a0.f0, .int .i64 a0.f1, .slice A1 a0.f2.length c2]) agg24 fsz24 rfl rfl rfl rfl) ?_)
                obtain ⟨y568, hy569, h⟩ := bind_no h
                refine TL.cons (TL.callV (Lin := []) (args := [.agg #[.int .i64 a0.f0, .int .i64 a0.f1, .slice A1 a0.f2.length c2]]) (Wt.yes rfl rfl rfl hk567) rfl rfl hbd17 rfl rfl (types_Size.calls (a0 := a0) hr3 hl4 hy569) rfl ?_)
                rintro _ _ _ _ ⟨rfl, rfl, rfl⟩
                refine TL.cons (TO.val (Wt.yes rfl rfl rfl hk567) rfl rfl (Val.cmp rfl rfl run_leq) ?_)
                refine TL.cons (TO.val rfl rfl rfl (Val.pickY rfl hk567 rfl) ?_)
                refine TL.cons (TO.val rfl rfl rfl (Val.move rfl) ?_)
                refine TK.split (p := x405 ≤ y568) h (fun hg570 h => ?_) (fun hg570 h => ?_)
                · have hk571 : decide (x405 ≤ y568) = true := decide_eq_true hg570
                  refine TL.cons (TO.val (Wt.yes rfl rfl rfl hk571) rfl rfl (Val.fieldAddrB Tryd.underlying24 rfl fsz3 rfl rfl rfl) ?_)
                  refine TL.cons (TO.val (Wt.yes rfl rfl rfl hk571) rfl rfl (Val.loadB 0 agg3 rfl rfl rfl) ?_)
                  refine TL.cons (TO.val (Wt.yes rfl rfl rfl hk571) rfl rfl (Val.cmp rfl rfl run_neq) ?_)
                  refine TL.cons (TO.val (Wt.yes rfl rfl rfl hk571) rfl rfl (Val.move rfl) ?_)
                  refine TK.split (p := (!decide (a0.f0 = 4)) = true) h (fun hg572 h => ?_) (fun hg572 h => ?_)
                  · have hk573 : (!decide (a0.f0 = 4)) = true := hg572
                    refine TL.cons (TL.not (Wt.no rfl rfl rfl hk573) rfl ?_)
                    refine TL.cons (TL.not (Wt.no rfl rfl rfl hk573) rfl ?_)
                    refine TL.cons (TL.not (Wt.no rfl rfl rfl hk573) rfl ?_)
                    refine TL.cons (TL.not (Wt.no rfl rfl rfl hk573) rfl ?_)
                    refine TL.cons (TO.val (Wt.yes rfl rfl rfl hk571) rfl rfl (Val.pickY rfl hk573 rfl) ?_)
                    refine TL.cons (TO.val rfl rfl rfl (Val.pickY rfl hk571 rfl) ?_)
                    refine TL.cons (TO.val rfl rfl rfl (Val.move rfl) ?_)
                    refine TL.cons (TO.val (Wt.yes rfl rfl rfl rfl) rfl rfl (Val.loadsB 0 (cs := [.int .i64 a0.f0, .int .i64 a0.f1, .slice A1 a0.f2.length c2]) agg24 fsz24 rfl rfl rfl rfl) ?_)
                    obtain ⟨y574, hy575, h⟩ := bind_no h
                    refine TL.cons (TL.callV (Lin := []) (args := [.agg #[.int .i64 a0.f0, .int .i64 a0.f1, .slice A1 a0.f2.length c2]]) (Wt.yes rfl rfl rfl rfl) rfl rfl hbd17 rfl rfl (types_Size.calls (a0 := a0) hr3 hl4 hy575) rfl ?_)
                    rintro _ _ _ _ ⟨rfl, rfl, rfl⟩
                    refine TL.cons (TO.val (Wt.yes rfl rfl rfl rfl) rfl rfl (Val.cmp rfl rfl run_leq) ?_)
                    refine TL.cons (TO.val rfl rfl rfl (Val.pickY rfl rfl rfl) ?_)
                    refine TL.cons (TO.val rfl rfl rfl (Val.assign rfl) ?_)
                    refine TL.nil ?_
                    refine TQ.then_ ?_
                    refine TC.ret ?_
                    obtain rfl := Option.some.inj h
                    exact TQ.fin (.inl rfl) rfl Tryd.results5 (.tmp rfl .nil) rfl (FRel.mk (Ls := []) [] 1 (Gd.le.refl _) rfl rfl rfl ⟨rfl, rfl, rfl⟩)
                  · have hk576 : (!decide (a0.f0 = 4)) = false := (by simpa using hg572)
                    refine TL.cons (TO.val (Wt.yes rfl rfl rfl hk576) rfl rfl (Val.move rfl) ?_)
                    refine TL.cons (TO.val (Wt.yes rfl rfl rfl hk576) rfl rfl (Val.loadsB 0 (cs := [.int .i64 a0.f0, .int .i64 a0.f1, .slice A1 a0.f2.length c2]) agg24 fsz24 rfl rfl rfl rfl) ?_)
                    obtain ⟨y577, hy578, h⟩ := bind_no h
                    refine TL.cons (TL.callV (Lin := []) (args := [.agg #[.int .i64 a0.f0, .int .i64 a0.f1, .slice A1 a0.f2.length c2]]) (Wt.yes rfl rfl rfl hk576) rfl rfl hbd17 rfl rfl (types_Size.calls (a0 := a0) hr3 hl4 hy578) rfl ?_)
                    rintro _ _ _ _ ⟨rfl, rfl, rfl⟩
                    refine TL.cons (TO.val (Wt.yes rfl rfl rfl hk576) rfl rfl (Val.cmp rfl rfl run_eql) ?_)
                    refine TL.cons (TO.val (Wt.yes rfl rfl rfl hk571) rfl rfl (Val.pickN rfl hk576 rfl) ?_)
                    refine TL.cons (TO.val rfl rfl rfl (Val.pickY rfl hk571 rfl) ?_)
                    refine TL.cons (TO.val rfl rfl rfl (Val.move rfl) ?_)
                    refine TK.split (p := x405 = y577) h (fun hg579 h => ?_) (fun hg579 h => ?_)
                    · have hk580 : decide (x405 = y577) = true := decide_eq_true hg579
                      refine TL.cons (TO.val (Wt.yes rfl rfl rfl hk580) rfl rfl (Val.loadsB 0 (cs := [.int .i64 a0.f0, .int .i64 a0.f1, .slice A1 a0.f2.length c2]) agg24 fsz24 rfl rfl rfl rfl) ?_)
                      obtain ⟨y581, hy582, h⟩ := bind_no h
                      refine TL.cons (TL.callV (Lin := []) (args := [.agg #[.int .i64 a0.f0, .int .i64 a0.f1, .slice A1 a0.f2.length c2]]) (Wt.yes rfl rfl rfl hk580) rfl rfl hbd17 rfl rfl (types_Size.calls (a0 := a0) hr3 hl4 hy582) rfl ?_)
                      rintro _ _ _ _ ⟨rfl, rfl, rfl⟩
                      refine TL.cons (TO.val (Wt.yes rfl rfl rfl hk580) rfl rfl (Val.cmp rfl rfl run_leq) ?_)
                      refine TL.cons (TO.val rfl rfl rfl (Val.pickY rfl hk580 rfl) ?_)
                      refine TL.cons (TO.val rfl rfl rfl (Val.assign rfl) ?_)
                      refine TL.nil ?_
                      refine TQ.then_ ?_
                      refine TC.ret ?_
                      obtain rfl := Option.some.inj h
                      exact TQ.fin (.inl rfl) rfl Tryd.results5 (.tmp rfl .nil) rfl (FRel.mk (Ls := []) [] 1 (Gd.le.refl _) rfl rfl rfl ⟨rfl, rfl, rfl⟩)
                    · have hk583 : decide (x405 = y577) = false := decide_eq_false hg579
                      refine TL.cons (TL.not (Wt.no rfl rfl rfl hk583) rfl ?_)
                      refine TL.cons (TL.not (Wt.no rfl rfl rfl hk583) rfl ?_)
                      refine TL.cons (TL.not (Wt.no rfl rfl rfl hk583) rfl ?_)
                      refine TL.cons (TO.val rfl rfl rfl (Val.pickN rfl hk583 rfl) ?_)
                      refine TL.cons (TO.val rfl rfl rfl (Val.assign rfl) ?_)
                      refine TL.nil ?_
                      refine TQ.then_ ?_
                      refine TC.ret ?_
                      obtain rfl := Option.some.inj h
                      exact TQ.fin (.inl rfl) rfl Tryd.results5 (.tmp rfl .nil) rfl (FRel.mk (Ls := []) [] 1 (Gd.le.refl _) rfl rfl rfl ⟨rfl, rfl, rfl⟩)
                · have hk584 : decide (x405 ≤ y568) = false := decide_eq_false hg570
                  refine TL.cons (TL.not (Wt.no rfl rfl rfl hk584) rfl ?_)
                  refine TL.cons (TL.not (Wt.no rfl rfl rfl hk584) rfl ?_)
                  refine TL.cons (TL.not (Wt.no rfl rfl rfl hk584) rfl ?_)
                  refine TL.cons (TL.not (Wt.no rfl rfl rfl hk584) rfl ?_)
                  refine TL.cons (TL.not rfl rfl ?_)
                  refine TL.cons (TL.not rfl rfl ?_)
                  refine TL.cons (TL.not rfl rfl ?_)
                  refine TL.cons (TL.not rfl rfl ?_)
                  refine TL.cons (TL.not (Wt.no rfl rfl rfl hk584) rfl ?_)
                  refine TL.cons (TO.val rfl rfl rfl (Val.pickN rfl hk584 rfl) ?_)
                  refine TL.cons (TO.val rfl rfl rfl (Val.move rfl) ?_)
                  refine TL.cons (TL.not (Wt.no rfl rfl rfl rfl) rfl ?_)
                  refine TL.cons (TL.not (Wt.no rfl rfl rfl rfl) rfl ?_)
                  refine TL.cons (TL.not (Wt.no rfl rfl rfl rfl) rfl ?_)
                  refine TL.cons (TO.val rfl rfl rfl (Val.pickN rfl rfl rfl) ?_)
                  refine TL.cons (TO.val rfl rfl rfl (Val.assign rfl) ?_)
                  refine TL.nil ?_
                  refine TQ.then_ ?_
                  refine TC.ret ?_
                  obtain rfl := Option.some.inj h
                  exact TQ.fin (.inl rfl) rfl Tryd.results5 (.tmp rfl .nil) rfl (FRel.mk (Ls := []) [] 1 (Gd.le.refl _) rfl rfl rfl ⟨rfl, rfl, rfl⟩)
              · have hk585 : y11 = false := (by simpa using hg566)
                refine TL.cons (TL.not (Wt.no rfl rfl rfl hk585) rfl ?_)
                refine TL.cons (TL.not (Wt.no rfl rfl rfl hk585) rfl ?_)
                refine TL.cons (TL.not (Wt.no rfl rfl rfl hk585) rfl ?_)
                refine TL.cons (TL.not (Wt.no rfl rfl rfl hk585) rfl ?_)
                refine TL.cons (TO.val rfl rfl rfl (Val.pickN rfl hk585 rfl) ?_)
                refine TL.cons (TO.val rfl rfl rfl (Val.move rfl) ?_)
                refine TL.cons (TL.not (Wt.no rfl rfl rfl rfl) rfl ?_)
                refine TL.cons (TL.not (Wt.no rfl rfl rfl rfl) rfl ?_)
                refine TL.cons (TL.not (Wt.no rfl rfl rfl rfl) rfl ?_)
                refine TL.cons (TL.not (Wt.no rfl rfl rfl rfl) rfl ?_)
                refine TL.cons (TL.not rfl rfl ?_)
                refine TL.cons (TL.not rfl rfl ?_)
                refine TL.cons (TL.not rfl rfl ?_)
                refine TL.cons (TL.not rfl rfl ?_)
                refine TL.cons (TL.not (Wt.no rfl rfl rfl rfl) rfl ?_)
                refine TL.cons (TO.val rfl rfl rfl (Val.pickN rfl rfl rfl) ?_)
                refine TL.cons (TO.val rfl rfl rfl (Val.move rfl) ?_)
                refine TL.cons (TL.not (Wt.no rfl rfl rfl rfl) rfl ?_)
                refine TL.cons (TL.not (Wt.no rfl rfl rfl rfl) rfl ?_)
                refine TL.cons (TL.not (Wt.no rfl rfl rfl rfl) rfl ?_)
                refine TL.cons (TO.val rfl rfl rfl (Val.pickN rfl rfl rfl) ?_)
                refine TL.cons (TO.val rfl rfl rfl (Val.assign rfl) ?_)
                refine TL.nil ?_
                refine TQ.then_ ?_
                refine TC.ret ?_
                obtain rfl := Option.some.inj h
                exact TQ.fin (.inl rfl) rfl Tryd.results5 (.tmp rfl .nil) rfl (FRel.mk (Ls := []) [] 1 (Gd.le.refl _) rfl rfl rfl ⟨rfl, rfl, rfl⟩)
            · refine TC.block ?_
              intro a W hF hO
              have hS : ∃ (x265 : Int) (x266 : Int), swagelaw11_TypesLie.l0 a0 x51 (x51.toNat + 1) x265 x266 = some o406 ∧ Fr 113 a [(2, .pointer (some ⟨b9, 0, none⟩)), (5, .bool y11), (7, .int .i64 x265), (8, .int .i64 x51), (9, .int .i64 x266)] ∧ Own G (Blk b9 [.int .i64 a0.f0, .int .i64 a0.f1, .slice A1 a0.f2.length c2] 24 :: L) W := by
                exact ⟨0, 0, ho406, hF.sub ⟨rfl, rfl, rfl, rfl, rfl, trivial⟩, hO.selT (Ls := [Blk b9 [.int .i64 a0.f0, .int .i64 a0.f1, .slice A1 a0.f2.length c2] 24]) [0] 1 rfl rfl rfl⟩
              clear hF hO ho406
              refine TC.loop (fun n407 a W => ∃ (x265 : Int) (x266 : Int), swagelaw11_TypesLie.l0 a0 x51 n407 x265 x266 = some o406 ∧ Fr 113 a [(2, .pointer (some ⟨b9, 0, none⟩)), (5, .bool y11), (7, .int .i64 x265), (8, .int .i64 x51), (9, .int .i64 x266)] ∧ Own G (Blk b9 [.int .i64 a0.f0, .int .i64 a0.f1, .slice A1 a0.f2.length c2] 24 :: L) W) ?_ ?_ hS
              · rintro a W ⟨x265, x266, h, hF, hO⟩
                exact none_no h
              · clear hS
                rintro n407 a W ⟨x265, x266, h, hF, hO⟩
                rw [swagelaw11_TypesLie.l0] at h
                refine TC.use ?_ hF hO
                clear hF hO
                refine TC.seq ?_
                refine TC.seq ?_
                obtain ⟨j590, hj590, h⟩ := jn_no h
                refine TC.tail (fun a W => ∃ (x589 : Bool), j590 x589 = some o406 ∧ Fr 113 a [(2, .pointer (some ⟨b9, 0, none⟩)), (5, .bool y11), (7, .int .i64 x265), (8, .int .i64 x51), (9, .int .i64 x266), (58, .bool x589)] ∧ Own G (Blk b9 [.int .i64 a0.f0, .int .i64 a0.f1, .slice A1 a0.f2.length c2] 24 :: L) W) ?_ ?_
                · rintro a W ⟨x589, h, hF, hO⟩
                  rw [hj590] at h
                  refine TQ.use ?_ hF hO
                  clear hF hO
                  refine TQ.then_ ?_
                  refine TC.cond_b rfl h (fun hc592 h => ?_) (fun hc592 h => ?_)
                  · refine TC.skip ?_
                    refine TQ.then_ ?_
                    refine TC.seq ?_
                    refine TC.block ?_
                    refine TC.seq ?_
                    refine TC.region ?_
                    refine TL.cons (TO.val rfl rfl rfl (Val.loadsB 0 (cs := [.int .i64 a0.f0, .int .i64 a0.f1, .slice A1 a0.f2.length c2]) agg24 fsz24 rfl rfl rfl rfl) ?_)
                    refine TL.cons (TO.val rfl rfl rfl (Val.move rfl) ?_)
                    obtain ⟨y657, hy658, h⟩ := bind_no h
                    refine TL.cons (TL.callV (Lin := []) (args := [.agg #[.int .i64 a0.f0, .int .i64 a0.f1, .slice A1 a0.f2.length c2], .int .i64 x266]) rfl rfl rfl hbd13 rfl rfl (types_Offset.calls (a0 := a0) (a1 := x266) hr3 hl4 hy658) rfl ?_)
                    rintro _ _ _ _ ⟨rfl, rfl, rfl⟩
                    refine TL.cons (TO.val rfl rfl rfl (Val.move rfl) ?_)
                    refine TL.cons (TO.val rfl rfl rfl (Val.extract rfl rfl) ?_)
                    refine TL.cons (TO.val rfl rfl rfl (Val.extract rfl rfl) ?_)
                    refine TL.cons (TO.val rfl rfl rfl (Val.assign rfl) ?_)
                    refine TL.cons (TO.val rfl rfl rfl (Val.assign rfl) ?_)
                    refine TL.nil ?_
                    refine TQ.then_ ?_
                    refine TC.seq ?_
                    refine TC.seq ?_
                    obtain ⟨j663, hj663, h⟩ := jn_no h
                    refine TC.tail (fun a W => ∃ (x662 : Bool), j663 x662 = some o406 ∧ Fr 113 a [(2, .pointer (some ⟨b9, 0, none⟩)), (5, .bool y11), (7, .int .i64 x265), (8, .int .i64 x51), (9, .int .i64 x266), (73, .bool x662)] ∧ Own G (Blk b9 [.int .i64 a0.f0, .int .i64 a0.f1, .slice A1 a0.f2.length c2] 24 :: L) W) ?_ ?_
                    · rintro a W ⟨x662, h, hF, hO⟩
                      rw [hj663] at h
                      refine TQ.use ?_ hF hO
                      clear hF hO
                      refine TQ.then_ ?_
                      refine TC.cond_b rfl h (fun hc665 h => ?_) (fun hc665 h => ?_)
                      · refine TC.seq ?_
                        refine TC.region ?_
                        refine TL.cons (TO.val rfl rfl rfl (Val.assign rfl) ?_)
                        refine TL.nil ?_
                        refine TQ.then_ ?_
                        refine TC.ret ?_
                        refine TQ.thenR ?_
                        refine TQ.inBR ?_
                        refine TQ.thenR ?_
                        refine TQ.thenR ?_
                        refine TQ.inBR ?_
                        refine TQ.thenR ?_
                        refine TQ.thenR ?_
                        obtain rfl := Option.some.inj h
                        have h := ko406
                        obtain rfl := Option.some.inj h
                        exact TQ.fin (.inl rfl) rfl Tryd.results5 (.tmp rfl .nil) rfl (FRel.mk (Ls := []) [] 1 (Gd.le.refl _) rfl rfl rfl ⟨rfl, rfl, rfl⟩)
                      · refine TC.skip ?_
                        refine TQ.then_ ?_
                        refine TC.seq ?_
                        refine TC.region ?_
                        refine TL.cons (TO.val rfl rfl rfl (Val.fieldAddrB Tryd.underlying24 rfl fsz22 rfl rfl rfl) ?_)
                        refine TL.cons (TO.val rfl rfl rfl (Val.loadB 0 agg22 rfl rfl rfl) ?_)
                        obtain ⟨y666, hx667, h⟩ := bind_no h
                        obtain ⟨ad668, cs674, hA669, hi670, hj671, hcl672, hK673⟩ := Rd.at hr3 hx667
                        obtain ⟨A675, c676, rfl, hr677, hl678⟩ := k24_openR hK673
                        refine TL.cons (TO.val rfl rfl rfl (Val.indexAddr Tryd.underlying22 fsz24 rfl hA669 rfl hi670 hj671) ?_)
                        refine TL.cons (TO.val rfl rfl rfl (Val.loadsS (cs := [.int .i64 y666.f0, .int .i64 y666.f1, .slice A675 y666.f2.length c676]) agg24 fsz24 rfl rfl (Cl.sub (off := 0) (n := 3) hcl672 rfl)) ?_)
                        refine TL.cons (TL.alloc (cs := [.int .i64 0, .int .i64 0, .slice none 0 0]) rfl rfl zr24 rfl (fun b679 => ?_))
                        refine TL.cons (TL.store 0 (ds := [.int .i64 y666.f0, .int .i64 y666.f1, .slice A675 y666.f2.length c676]) (cs' := [.int .i64 y666.f0, .int .i64 y666.f1, .slice A675 y666.f2.length c676]) (L' := (Blk b679 [.int .i64 y666.f0, .int .i64 y666.f1, .slice A675 y666.f2.length c676] 24 :: Blk b9 [.int .i64 a0.f0, .int .i64 a0.f1, .slice A1 a0.f2.length c2] 24 :: L)) rfl fsz24 rfl rfl rfl rfl rfl (Nat.le_of_ble_eq_true rfl) rfl rfl ?_)
                        refine TL.nil ?_
                        refine TQ.then_ ?_
                        refine TC.seq ?_
                        refine TC.seq ?_
                        refine TC.region ?_
                        refine TL.cons (TO.val rfl rfl rfl (Val.fieldAddrB Tryd.underlying24 rfl fsz3 rfl rfl rfl) ?_)
                        refine TL.cons (TO.val rfl rfl rfl (Val.loadB 1 agg3 rfl rfl rfl) ?_)
                        refine TL.cons (TO.val rfl rfl rfl (Val.cmp rfl rfl run_eql) ?_)
                        refine TL.nil ?_
                        refine TQ.then_ ?_
                        obtain ⟨j701, hj701, h⟩ := jn_no h
                        refine TC.tail (fun a W => ∃ (x694 : Int) (x695 : Int) (l696 : (List S24)) (A697 : Option Addr) (c698 : Nat), j701 x694 x695 l696 = some o406 ∧ Rd G k24 A697 l696 ∧ l696.length ≤ c698 ∧ Fr 113 a [(2, .pointer (some ⟨b9, 0, none⟩)), (5, .bool y11), (7, .int .i64 x265), (8, .int .i64 x51), (9, .int .i64 x266), (12, .pointer (some ⟨b679, 0, none⟩))] ∧ Own G (Blk b679 [.int .i64 x694, .int .i64 x695, .slice A697 l696.length c698] 24 :: Blk b9 [.int .i64 a0.f0, .int .i64 a0.f1, .slice A1 a0.f2.length c2] 24 :: L) W) ?_ ?_
                        · rintro a W ⟨x694, x695, l696, A697, c698, h, hr699, hl700, hF, hO⟩
                          rw [hj701] at h
                          refine TQ.use ?_ hF hO
                          clear hF hO
                          refine TQ.then_ ?_
                          refine TC.region ?_
                          refine TL.cons (TO.val rfl rfl rfl (Val.move rfl) ?_)
                          refine TL.cons (TO.val rfl rfl rfl (Val.loadsB 0 (cs := [.int .i64 x694, .int .i64 x695, .slice A697 l696.length c698]) agg24 fsz24 rfl rfl rfl rfl) ?_)
                          obtain ⟨y702, hy703, h⟩ := bind_no h
                          refine TL.cons (TL.callV (Lin := []) (args := [.agg #[.int .i64 x694, .int .i64 x695, .slice A697 l696.length c698]]) rfl rfl rfl hbd17 rfl rfl (types_Size.calls (a0 := (⟨x694, x695, l696⟩ : S24)) hr699 hl700 hy703) rfl ?_)
                          rintro _ _ _ _ ⟨rfl, rfl, rfl⟩
                          refine TL.cons (TO.val rfl rfl rfl (Val.cmp rfl rfl run_add) ?_)
                          refine TL.cons (TO.val rfl rfl rfl (Val.assign rfl) ?_)
                          refine TL.nil ?_
                          refine TQ.inB ?_
                          refine TQ.then_ ?_
                          refine TC.region ?_
                          refine TL.cons (TO.val rfl rfl rfl (Val.move rfl) ?_)
                          refine TL.cons (TO.val rfl rfl rfl (Val.cmp rfl rfl run_add) ?_)
                          refine TL.cons (TO.val rfl rfl rfl (Val.assign rfl) ?_)
                          refine TL.nil ?_
                          exact fun a W hF hO => ⟨IntKind.i64.wrap (x265 + y702), IntKind.i64.wrap (x266 + 1), h, hF.sub ⟨rfl, rfl, rfl, rfl, rfl, trivial⟩, hO.selT (Ls := [Blk b9 [.int .i64 a0.f0, .int .i64 a0.f1, .slice A1 a0.f2.length c2] 24]) [1] 2 rfl rfl rfl⟩
                        · refine TC.cond_p rfl h (fun hc704 h => ?_) (fun hc704 h => ?_)
                          · refine TC.region ?_
                            refine TL.cons (TO.val rfl rfl rfl (Val.fieldAddrB Tryd.underlying24 rfl fsz22 rfl rfl rfl) ?_)
                            refine TL.cons (TO.val rfl rfl rfl (Val.loadB 1 agg22 rfl rfl rfl) ?_)
                            refine TL.cons (TO.val rfl rfl rfl (Val.move rfl) ?_)
                            obtain ⟨y705, hx706, h⟩ := bind_no h
                            obtain ⟨ad707, cs713, hA708, hi709, hj710, hcl711, hK712⟩ := Rd.at hr3 hx706
                            obtain ⟨A714, c715, rfl, hr716, hl717⟩ := k24_openR hK712
                            refine TL.cons (TO.val rfl rfl rfl (Val.indexAddr Tryd.underlying22 fsz24 rfl hA708 rfl hi709 hj710) ?_)
                            refine TL.cons (TO.val rfl rfl rfl (Val.loadsS (cs := [.int .i64 y705.f0, .int .i64 y705.f1, .slice A714 y705.f2.length c715]) agg24 fsz24 rfl rfl (Cl.sub (off := 0) (n := 3) hcl711 rfl)) ?_)
                            refine TL.cons (TL.store 0 (ds := [.int .i64 y705.f0, .int .i64 y705.f1, .slice A714 y705.f2.length c715]) (cs' := [.int .i64 y705.f0, .int .i64 y705.f1, .slice A714 y705.f2.length c715]) (L' := (Blk b679 [.int .i64 y705.f0, .int .i64 y705.f1, .slice A714 y705.f2.length c715] 24 :: Blk b9 [.int .i64 a0.f0, .int .i64 a0.f1, .slice A1 a0.f2.length c2] 24 :: L)) rfl fsz24 rfl rfl rfl rfl rfl (Nat.le_of_ble_eq_true rfl) rfl rfl ?_)
                            refine TL.nil ?_
                            exact fun a W hF hO => ⟨y705.f0, y705.f1, y705.f2, A714, c715, h, hr716, hl717, hF.sub ⟨rfl, rfl, rfl, rfl, rfl, rfl, trivial⟩, hO.selT (Ls := [Blk b679 [.int .i64 y705.f0, .int .i64 y705.f1, .slice A714 y705.f2.length c715] 24, Blk b9 [.int .i64 a0.f0, .int .i64 a0.f1, .slice A1 a0.f2.length c2] 24]) [0, 1] 2 rfl rfl rfl⟩
                          · refine TC.skip ?_
                            exact fun a W hF hO => ⟨y666.f0, y666.f1, y666.f2, A675, c676, h, hr677, hl678, hF.sub ⟨rfl, rfl, rfl, rfl, rfl, rfl, trivial⟩, hO.selT (Ls := [Blk b679 [.int .i64 y666.f0, .int .i64 y666.f1, .slice A675 y666.f2.length c676] 24, Blk b9 [.int .i64 a0.f0, .int .i64 a0.f1, .slice A1 a0.f2.length c2] 24]) [0, 1] 2 rfl rfl rfl⟩
                    · refine TC.region ?_
                      refine TL.cons (TO.val rfl rfl rfl (Val.move rfl) ?_)
                      refine TL.cons (TO.val rfl rfl rfl (Val.not_ rfl) ?_)
                      refine TL.cons (TO.val rfl rfl rfl (Val.move rfl) ?_)
                      refine TK.split (p := (!y657.2) = true) h (fun hg718 h => ?_) (fun hg718 h => ?_)
                      · have hk719 : (!y657.2) = true := hg718
                        refine TL.cons (TL.not (Wt.no rfl rfl rfl hk719) rfl ?_)
                        refine TL.cons (TL.not (Wt.no rfl rfl rfl hk719) rfl ?_)
                        refine TL.cons (TL.not (Wt.no rfl rfl rfl hk719) rfl ?_)
                        refine TL.cons (TO.val rfl rfl rfl (Val.pickY rfl hk719 rfl) ?_)
                        refine TL.nil ?_
                        exact fun a W hF hO => ⟨true, h, hF.sub ⟨rfl, rfl, rfl, rfl, rfl, rfl, trivial⟩, hO.selT (Ls := [Blk b9 [.int .i64 a0.f0, .int .i64 a0.f1, .slice A1 a0.f2.length c2] 24]) [0] 1 rfl rfl rfl⟩
                      · have hk720 : (!y657.2) = false := (by simpa using hg718)
                        refine TL.cons (TO.val (Wt.yes rfl rfl rfl hk720) rfl rfl (Val.move rfl) ?_)
                        refine TL.cons (TO.val (Wt.yes rfl rfl rfl hk720) rfl rfl (Val.move rfl) ?_)
                        refine TL.cons (TO.val (Wt.yes rfl rfl rfl hk720) rfl rfl (Val.cmp rfl rfl run_neq) ?_)
                        refine TL.cons (TO.val rfl rfl rfl (Val.pickN rfl hk720 rfl) ?_)
                        refine TL.nil ?_
                        exact fun a W hF hO => ⟨(!decide (y657.1 = x265)), h, hF.sub ⟨rfl, rfl, rfl, rfl, rfl, rfl, trivial⟩, hO.selT (Ls := [Blk b9 [.int .i64 a0.f0, .int .i64 a0.f1, .slice A1 a0.f2.length c2] 24]) [0] 1 rfl rfl rfl⟩
                  · refine TC.exit ?_
                    refine TQ.thenX ?_
                    refine TQ.thenX ?_
                    refine TQ.inBX ?_
                    exact fun a W hF hO => ⟨x265, Option.some.inj h, hF.sub ⟨rfl, rfl, rfl, trivial⟩, hO.selT (Ls := [Blk b9 [.int .i64 a0.f0, .int .i64 a0.f1, .slice A1 a0.f2.length c2] 24]) [0] 1 rfl rfl rfl⟩
                · refine TC.region ?_
                  refine TL.cons (TO.val rfl rfl rfl (Val.move rfl) ?_)
                  refine TL.cons (TO.val rfl rfl rfl (Val.move rfl) ?_)
                  refine TL.cons (TO.val rfl rfl rfl (Val.cmp rfl rfl run_lss) ?_)
                  refine TL.cons (TO.val rfl rfl rfl (Val.move rfl) ?_)
                  refine TK.split (p := x266 < x51) h (fun hg721 h => ?_) (fun hg721 h => ?_)
                  · have hk722 : decide (x266 < x51) = true := decide_eq_true hg721
                    refine TL.cons (TO.val (Wt.yes rfl rfl rfl hk722) rfl rfl (Val.fieldAddrB Tryd.underlying24 rfl fsz3 rfl rfl rfl) ?_)
                    refine TL.cons (TO.val (Wt.yes rfl rfl rfl hk722) rfl rfl (Val.loadB 0 agg3 rfl rfl rfl) ?_)
                    refine TL.cons (TO.val (Wt.yes rfl rfl rfl hk722) rfl rfl (Val.cmp rfl rfl run_neq) ?_)
                    refine TL.cons (TO.val rfl rfl rfl (Val.pickY rfl hk722 rfl) ?_)
                    refine TL.nil ?_
                    exact fun a W hF hO => ⟨(!decide (a0.f0 = 2)), h, hF.sub ⟨rfl, rfl, rfl, rfl, rfl, rfl, trivial⟩, hO.selT (Ls := [Blk b9 [.int .i64 a0.f0, .int .i64 a0.f1, .slice A1 a0.f2.length c2] 24]) [0] 1 rfl rfl rfl⟩
                  · have hk723 : decide (x266 < x51) = false := decide_eq_false hg721
                    refine TL.cons (TL.not (Wt.no rfl rfl rfl hk723) rfl ?_)
                    refine TL.cons (TL.not (Wt.no rfl rfl rfl hk723) rfl ?_)
                    refine TL.cons (TL.not (Wt.no rfl rfl rfl hk723) rfl ?_)
                    refine TL.cons (TO.val rfl rfl rfl (Val.pickN rfl hk723 rfl) ?_)
                    refine TL.nil ?_
                    exact fun a W hF hO => ⟨false, h, hF.sub ⟨rfl, rfl, rfl, rfl, rfl, rfl, trivial⟩, hO.selT (Ls := [Blk b9 [.int .i64 a0.f0, .int .i64 a0.f1, .slice A1 a0.f2.length c2] 24]) [0] 1 rfl rfl rfl⟩
          · refine TC.cond_p rfl h (fun hc724 h => ?_) (fun hc724 h => ?_)
            · refine TC.region ?_
              refine TL.cons (TO.val rfl rfl rfl (Val.fieldAddrB Tryd.underlying24 rfl fsz3 rfl rfl rfl) ?_)
              refine TL.cons (TO.val rfl rfl rfl (Val.loadB 1 agg3 rfl rfl rfl) ?_)
              refine TL.cons (TO.val rfl rfl rfl (Val.min2 rfl rfl) ?_)
              refine TL.cons (TO.val rfl rfl rfl (Val.assign rfl) ?_)
              refine TL.nil ?_
              exact fun a W hF hO => ⟨(if 100 < a0.f1 then 100 else a0.f1), h, hF.sub ⟨rfl, rfl, rfl, rfl, trivial⟩, hO.selT (Ls := [Blk b9 [.int .i64 a0.f0, .int .i64 a0.f1, .slice A1 a0.f2.length c2] 24]) [1] 2 rfl rfl rfl⟩
            · refine TC.skip ?_
              exact fun a W hF hO => ⟨(a0.f2.length : Int), h, hF.sub ⟨rfl, rfl, rfl, rfl, trivial⟩, hO.selT (Ls := [Blk b9 [.int .i64 a0.f0, .int .i64 a0.f1, .slice A1 a0.f2.length c2] 24]) [1] 2 rfl rfl rfl⟩
    · refine TC.region ?_
      refine TL.cons (TO.val rfl rfl rfl (Val.move rfl) ?_)
      refine TL.cons (TO.val rfl rfl rfl (Val.not_ rfl) ?_)
      refine TL.cons (TO.val rfl rfl rfl (Val.move rfl) ?_)
      refine TK.split (p := (!x20) = true) h (fun hg725 h => ?_) (fun hg725 h => ?_)
      · have hk726 : (!x20) = true := hg725
        refine TL.cons (TL.not (Wt.no rfl rfl rfl hk726) rfl ?_)
        refine TL.cons (TL.not (Wt.no rfl rfl rfl hk726) rfl ?_)
        refine TL.cons (TL.not (Wt.no rfl rfl rfl hk726) rfl ?_)
        refine TL.cons (TO.val rfl rfl rfl (Val.pickY rfl hk726 rfl) ?_)
        refine TL.cons (TO.val rfl rfl rfl (Val.move rfl) ?_)
        refine TL.cons (TL.not (Wt.no rfl rfl rfl rfl) rfl ?_)
        refine TL.cons (TL.not (Wt.no rfl rfl rfl rfl) rfl ?_)
        refine TL.cons (TL.not (Wt.no rfl rfl rfl rfl) rfl ?_)
        refine TL.cons (TO.val rfl rfl rfl (Val.pickY rfl rfl rfl) ?_)
        refine TL.nil ?_
        exact fun a W hF hO => ⟨true, h, hF.sub ⟨rfl, rfl, rfl, rfl, trivial⟩, hO.selT (Ls := [Blk b10 [.int .i64 a1.f0, .int .i64 a1.f1, .slice A5 a1.f2.length c6] 24, Blk b9 [.int .i64 a0.f0, .int .i64 a0.f1, .slice A1 a0.f2.length c2] 24]) [0, 1] 2 rfl rfl rfl⟩
      · have hk727 : (!x20) = false := (by simpa using hg725)
        refine TL.cons (TO.val (Wt.yes rfl rfl rfl hk727) rfl rfl (Val.loadsB 1 (cs := [.int .i64 a0.f0, .int .i64 a0.f1, .slice A1 a0.f2.length c2]) agg24 fsz24 rfl rfl rfl rfl) ?_)
        obtain ⟨y728, hy729, h⟩ := bind_no h
        refine TL.cons (TL.callV (Lin := []) (args := [.agg #[.int .i64 a0.f0, .int .i64 a0.f1, .slice A1 a0.f2.length c2]]) (Wt.yes rfl rfl rfl hk727) rfl rfl hbd15 rfl rfl (types_Right.calls (a0 := a0) hr3 hl4 hy729) rfl ?_)
        rintro _ _ _ _ ⟨rfl, rfl, rfl⟩
        refine TL.cons (TO.val (Wt.yes rfl rfl rfl hk727) rfl rfl (Val.not_ rfl) ?_)
        refine TL.cons (TO.val rfl rfl rfl (Val.pickN rfl hk727 rfl) ?_)
        refine TL.cons (TO.val rfl rfl rfl (Val.move rfl) ?_)
        refine TK.split (p := (!y728) = true) h (fun hg730 h => ?_) (fun hg730 h => ?_)
        · have hk731 : (!y728) = true := hg730
          refine TL.cons (TL.not (Wt.no rfl rfl rfl hk731) rfl ?_)
          refine TL.cons (TL.not (Wt.no rfl rfl rfl hk731) rfl ?_)
          refine TL.cons (TL.not (Wt.no rfl rfl rfl hk731) rfl ?_)
          refine TL.cons (TO.val rfl rfl rfl (Val.pickY rfl hk731 rfl) ?_)
          refine TL.nil ?_
          exact fun a W hF hO => ⟨true, h, hF.sub ⟨rfl, rfl, rfl, rfl, trivial⟩, hO.selT (Ls := [Blk b10 [.int .i64 a1.f0, .int .i64 a1.f1, .slice A5 a1.f2.length c6] 24, Blk b9 [.int .i64 a0.f0, .int .i64 a0.f1, .slice A1 a0.f2.length c2] 24]) [0, 1] 2 rfl rfl rfl⟩
        · have hk732 : (!y728) = false := (by simpa using hg730)
          refine TL.cons (TO.val (Wt.yes rfl rfl rfl hk732) rfl rfl (Val.loadsB 0 (cs := [.int .i64 a1.f0, .int .i64 a1.f1, .slice A5 a1.f2.length c6]) agg24 fsz24 rfl rfl rfl rfl) ?_)
          obtain ⟨y733, hy734, h⟩ := bind_no h
          refine TL.cons (TL.callV (Lin := []) (args := [.agg #[.int .i64 a1.f0, .int .i64 a1.f1, .slice A5 a1.f2.length c6]]) (Wt.yes rfl rfl rfl hk732) rfl rfl hbd15 rfl rfl (types_Right.calls (a0 := a1) hr7 hl8 hy734) rfl ?_)
          rintro _ _ _ _ ⟨rfl, rfl, rfl⟩
          refine TL.cons (TO.val (Wt.yes rfl rfl rfl hk732) rfl rfl (Val.not_ rfl) ?_)
          refine TL.cons (TO.val rfl rfl rfl (Val.pickN rfl hk732 rfl) ?_)
          refine TL.nil ?_
          exact fun a W hF hO => ⟨(!y733), h, hF.sub ⟨rfl, rfl, rfl, rfl, trivial⟩, hO.selT (Ls := [Blk b10 [.int .i64 a1.f0, .int .i64 a1.f1, .slice A5 a1.f2.length c6] 24, Blk b9 [.int .i64 a0.f0, .int .i64 a0.f1, .slice A1 a0.f2.length c2] 24]) [0, 1] 2 rfl rfl rfl⟩
  · refine TC.region ?_
    refine TL.cons (TO.val rfl rfl rfl (Val.loadsB 1 (cs := [.int .i64 a0.f0, .int .i64 a0.f1, .slice A1 a0.f2.length c2]) agg24 fsz24 rfl rfl rfl rfl) ?_)
    obtain ⟨y735, hy736, h⟩ := bind_no h
    refine TL.cons (TL.callV (Lin := []) (args := [.agg #[.int .i64 a0.f0, .int .i64 a0.f1, .slice A1 a0.f2.length c2]]) rfl rfl rfl hbd8 rfl rfl (swagelaw11_Few.calls (a0 := a0) hr3 hl4 hy736) rfl ?_)
    rintro _ _ _ _ ⟨rfl, rfl, rfl⟩
    refine TL.cons (TO.val rfl rfl rfl (Val.move rfl) ?_)
    refine TK.split (p := y735 = true) h (fun hg737 h => ?_) (fun hg737 h => ?_)
    · have hk738 : y735 = true := hg737
      refine TL.cons (TO.val (Wt.yes rfl rfl rfl hk738) rfl rfl (Val.loadsB 0 (cs := [.int .i64 a1.f0, .int .i64 a1.f1, .slice A5 a1.f2.length c6]) agg24 fsz24 rfl rfl rfl rfl) ?_)
      obtain ⟨y739, hy740, h⟩ := bind_no h
      refine TL.cons (TL.callV (Lin := []) (args := [.agg #[.int .i64 a1.f0, .int .i64 a1.f1, .slice A5 a1.f2.length c6]]) (Wt.yes rfl rfl rfl hk738) rfl rfl hbd8 rfl rfl (swagelaw11_Few.calls (a0 := a1) hr7 hl8 hy740) rfl ?_)
      rintro _ _ _ _ ⟨rfl, rfl, rfl⟩
      refine TL.cons (TO.val rfl rfl rfl (Val.pickY rfl hk738 rfl) ?_)
      refine TL.cons (TO.val rfl rfl rfl (Val.assign rfl) ?_)
      refine TL.nil ?_
      exact fun a W hF hO => ⟨y739, h, hF.sub ⟨rfl, rfl, rfl, rfl, trivial⟩, hO.selT (Ls := [Blk b10 [.int .i64 a1.f0, .int .i64 a1.f1, .slice A5 a1.f2.length c6] 24, Blk b9 [.int .i64 a0.f0, .int .i64 a0.f1, .slice A1 a0.f2.length c2] 24]) [0, 1] 2 rfl rfl rfl⟩
    · have hk741 : y735 = false := (by simpa using hg737)
      refine TL.cons (TL.not (Wt.no rfl rfl rfl hk741) rfl ?_)
      refine TL.cons (TL.not (Wt.no rfl rfl rfl hk741) rfl ?_)
      refine TL.cons (TO.val rfl rfl rfl (Val.pickN rfl hk741 rfl) ?_)
      refine TL.cons (TO.val rfl rfl rfl (Val.assign rfl) ?_)
      refine TL.nil ?_
      exact fun a W hF hO => ⟨false, h, hF.sub ⟨rfl, rfl, rfl, rfl, trivial⟩, hO.selT (Ls := [Blk b10 [.int .i64 a1.f0, .int .i64 a1.f1, .slice A5 a1.f2.length c6] 24, Blk b9 [.int .i64 a0.f0, .int .i64 a0.f1, .slice A1 a0.f2.length c2] 24]) [0, 1] 2 rfl rfl rfl⟩
end Go.Proofs.YtdklnjmdaecboaaDoor.Sy
set_option linter.unusedVariables false
set_option linter.unusedSimpArgs false
namespace Go.Proofs.YtdklnjmdaecboaaDoor.Sy
open Go Go.RowKit Go.Proofs.YtdklnjmdaecboaaDoorW.PrintWords Go.Proofs.YtdklnjmdaecboaaDoor.SyO
theorem same_eqv (t : S24) : ∀ u, same t u = true → t = u := by
  refine S24.ind (P := fun t => ∀ u, same t u = true → t = u) (fun t ih u h => ?_) t
  rw [same_eq] at h
  simp only [Bool.and_eq_true, decide_eq_true_eq] at h
  have hl : ∀ (l k : List S24), (∀ y ∈ l, ∀ u, same y u = true → y = u) → sameL l k = true → l = k := by
    intro l
    induction l with
    | nil =>
      intro k _ hk
      cases k with
      | nil => rfl
      | cons y r => simp [sameL] at hk
    | cons x l ihl =>
      intro k hm hk
      cases k with
      | nil => simp [sameL] at hk
      | cons y r =>
        simp only [sameL, Bool.and_eq_true] at hk
        rw [hm x List.mem_cons_self y hk.1, ihl r (fun z hz => hm z (List.mem_cons_of_mem _ hz)) hk.2]
  rw [← S24.eta t, ← S24.eta u, h.1.1, h.1.2, hl _ _ ih h.2]
/-! #### Digits say their number -/
def val (l : List UInt8) : Nat := l.foldl (fun a b => 10 * a + (b.toNat - 48)) 0
theorem val_append (l : List UInt8) (b : UInt8) : val (l ++ [b]) = 10 * val l + (b.toNat - 48) := by simp [val]
theorem dig_toNat {d : Nat} (h : d < 10) : (UInt8.ofNat (48 + d)).toNat = 48 + d := by
  simp; omega
theorem val_digits (u : Nat) : val (Lib.decDigits u) = u := by
  induction u using Nat.strongRecOn with
  | _ u ih =>
    rw [Lib.decDigits]
    by_cases h : u < 10
    · rw [dif_pos h]
      show val ([] ++ [_]) = u
      rw [val_append, dig_toNat h]
      show 10 * 0 + _ = u
      omega
    · rw [dif_neg h, val_append, ih (u / 10) (by omega), dig_toNat (Nat.mod_lt _ (by omega))]
      omega
theorem digits_no (u : Nat) : ∀ b ∈ Lib.decDigits u, b ≠ 93 := by
  have hne : ∀ d, d < 10 → UInt8.ofNat (48 + d) ≠ 93 := fun d hd h => by
    have := congrArg UInt8.toNat h
    rw [dig_toNat hd] at this
    have e : (93 : UInt8).toNat = 93 := rfl
    omega
  induction u using Nat.strongRecOn with
  | _ u ih =>
    intro b hb
    rw [Lib.decDigits] at hb
    by_cases h : u < 10
    · rw [dif_pos h] at hb
      rw [List.mem_singleton.1 hb]
      exact hne u h
    · rw [dif_neg h] at hb
      rcases List.mem_append.1 hb with hb | hb
      · exact ih (u / 10) (by omega) b hb
      · rw [List.mem_singleton.1 hb]
        exact hne _ (Nat.mod_lt _ (by omega))
theorem split_at {c : UInt8} : ∀ {l k p q : List UInt8}, (∀ b ∈ l, b ≠ c) → (∀ b ∈ k, b ≠ c) → l ++ c :: p = k ++ c :: q → l = k ∧ p = q
  | [], [], p, q, _, _, h => by simpa using h
  | [], y :: k, p, q, _, hk, h => by
    injection h with h1 h2
    exact absurd h1.symm (hk y List.mem_cons_self)
  | x :: l, [], p, q, hl, _, h => by
    injection h with h1 h2
    exact absurd h1 (hl x List.mem_cons_self)
  | x :: l, y :: k, p, q, hl, hk, h => by
    injection h with h1 h2
    obtain ⟨e1, e2⟩ := split_at (fun b hb => hl b (List.mem_cons_of_mem _ hb)) (fun b hb => hk b (List.mem_cons_of_mem _ hb)) h2
    exact ⟨by rw [h1, e1], e2⟩
theorem itoa_split {a b : Int} {p q : List UInt8} (a0 : 1 ≤ a) (a1 : a ≤ 1048576) (b0 : 1 ≤ b) (b1 : b ≤ 1048576) (h : itoaK a ++ 93 :: p = itoaK b ++ 93 :: q) : a = b ∧ p = q := by
  rw [itoaK_eq (by omega) (by omega), itoaK_eq (by omega) (by omega)] at h
  unfold Lib.itoa at h
  rw [if_neg (by omega), if_neg (by omega)] at h
  obtain ⟨e1, e2⟩ := split_at (digits_no _) (digits_no _) h
  have := congrArg val e1
  rw [val_digits, val_digits] at this
  exact ⟨by omega, e2⟩
/-! #### One text, one type -/
theorem kok1 {t : S24} (h : kok t = true) (h3 : t.f0 = 1) : t.f2 = [] ∧ t.f1 = 0 := by
  unfold kok at h
  simp [h3] at h
  exact h
theorem kok2 {t : S24} (h : kok t = true) (h3 : t.f0 = 2) : t.f2.length = 1 ∧ t.f1 = 0 := by
  unfold kok at h
  simp [h3] at h
  exact h
theorem kok_cases {t : S24} (h : kok t = true) : t.f0 = 1 ∨ t.f0 = 2 ∨ t.f0 = 3 ∨ t.f0 = 4 := by
  apply Classical.byContradiction
  intro hn
  have a1 : ¬ t.f0 = 1 := fun a => hn (.inl a)
  have a2 : ¬ t.f0 = 2 := fun a => hn (.inr (.inl a))
  have a3 : ¬ t.f0 = 3 := fun a => hn (.inr (.inr (.inl a)))
  have a4 : ¬ t.f0 = 4 := fun a => hn (.inr (.inr (.inr a)))
  unfold kok at h
  simp [a1, a2, a3, a4] at h
/-- The text of a shaped type, by its kind. -/
theorem txt1 {t : S24} (a : t.f0 = 1) : txt t = [105, 110, 116] := by rw [txt_eq, if_pos a]
theorem txt2 {t y : S24} (a : t.f0 = 2) (h : t.f2 = [y]) : txt t = 42 :: txt y := by
  rw [txt_eq, if_neg (by omega), if_neg (by rw [h]; simp; omega), if_pos a, h]; rfl
theorem txt3 {t y : S24} (a : t.f0 = 3) (h : t.f2 = [y]) : txt t = 91 :: (itoaK t.f1 ++ 93 :: txt y) := by
  rw [txt_eq, if_neg (by omega), if_neg (by rw [h]; simp; omega), if_neg (by omega), if_pos a, h]; rfl
theorem txt4 {t y : S24} {r : List S24} (a : t.f0 = 4) (h : t.f2 = y :: r) : txt t = 40 :: (txt y ++ txtT r ++ [41]) := by
  rw [txt_eq, if_neg (by omega), if_neg (by rw [h]; simp; omega), if_neg (by omega), if_neg (by omega), h]; rfl
theorem one_of {l : List S24} (h : l.length = 1) : ∃ y, l = [y] := by
  match l, h with
  | [y], _ => exact ⟨y, rfl⟩
/-- One text's first byte tells the kind. -/
theorem kind_of {t u : S24} {r s : List UInt8} (ht : kok t = true) (hu : kok u = true) (h : txt t ++ r = txt u ++ s) : t.f0 = u.f0 := by
  have head : ∀ {t : S24}, kok t = true → ∃ q, (t.f0 = 1 ∧ txt t = 105 :: q) ∨ (t.f0 = 2 ∧ txt t = 42 :: q) ∨ (t.f0 = 3 ∧ txt t = 91 :: q) ∨ (t.f0 = 4 ∧ txt t = 40 :: q) := by
    intro t ht
    rcases kok_cases ht with a | a | a | a
    · exact ⟨_, .inl ⟨a, txt1 a⟩⟩
    · obtain ⟨y, hy⟩ := one_of (kok2 ht a).1
      exact ⟨_, .inr (.inl ⟨a, txt2 a hy⟩)⟩
    · obtain ⟨y, hy⟩ := one_of (kok3 ht a).1
      exact ⟨_, .inr (.inr (.inl ⟨a, txt3 a hy⟩))⟩
    · have := (kok4 ht a).1
      match hf : t.f2, this with
      | y :: r, _ => exact ⟨_, .inr (.inr (.inr ⟨a, txt4 a hf⟩))⟩
  obtain ⟨q, hq⟩ := head ht
  obtain ⟨q', hq'⟩ := head hu
  rcases hq with ⟨a, e⟩ | ⟨a, e⟩ | ⟨a, e⟩ | ⟨a, e⟩ <;> rcases hq' with ⟨a', e'⟩ | ⟨a', e'⟩ | ⟨a', e'⟩ | ⟨a', e'⟩ <;> rw [e, e'] at h <;> first | (rw [a, a']; done) | (exfalso; injection h with h1 _; revert h1; decide)
theorem txtT_inj {l : List S24} (ih : ∀ y ∈ l, ∀ (u : S24) (r s : List UInt8), shp y = true → shp u = true → txt y ++ r = txt u ++ s → same y u = true ∧ r = s) :
    ∀ (k : List S24) (r s : List UInt8), shpL l = true → shpL k = true → txtT l ++ 41 :: r = txtT k ++ 41 :: s → sameL l k = true ∧ r = s := by
  induction l with
  | nil =>
    intro k r s _ _ h
    cases k with
    | nil =>
      simp only [txtT, List.nil_append] at h
      injection h with _ h2
      exact ⟨rfl, h2⟩
    | cons y k =>
      simp only [txtT, List.nil_append, List.cons_append] at h
      injection h with h1 _
      exact absurd h1 (by decide)
  | cons x l ihl =>
    intro k r s hl hk h
    cases k with
    | nil =>
      simp only [txtT, List.nil_append, List.cons_append] at h
      injection h with h1 _
      exact absurd h1 (by decide)
    | cons y k =>
      simp only [shpL, Bool.and_eq_true] at hl hk
      simp only [txtT, List.cons_append, List.append_assoc] at h
      injection h with _ h2
      obtain ⟨e1, e2⟩ := ih x List.mem_cons_self y _ _ hl.1 hk.1 h2
      obtain ⟨e3, e4⟩ := ihl (fun z hz => ih z (List.mem_cons_of_mem _ hz)) k r s hl.2 hk.2 e2
      exact ⟨by simp [sameL, e1, e3], e4⟩
theorem txt_inj (t : S24) : ∀ (u : S24) (r s : List UInt8), shp t = true → shp u = true → txt t ++ r = txt u ++ s → same t u = true ∧ r = s := by
  refine S24.ind (P := fun t => ∀ (u : S24) (r s : List UInt8), shp t = true → shp u = true → txt t ++ r = txt u ++ s → same t u = true ∧ r = s) (fun t ih u r s ht hu h => ?_) t
  rw [shp_eq, Bool.and_eq_true] at ht hu
  have hk := kind_of ht.1 hu.1 h
  rcases kok_cases ht.1 with a | a | a | a
  · have b : u.f0 = 1 := by omega
    obtain ⟨t2, t1⟩ := kok1 ht.1 a
    obtain ⟨u2, u1⟩ := kok1 hu.1 b
    rw [txt1 a, txt1 b] at h
    refine ⟨by rw [same_eq, a, b, t1, u1, t2, u2]; rfl, List.append_cancel_left h⟩
  · have b : u.f0 = 2 := by omega
    obtain ⟨t2, t1⟩ := kok2 ht.1 a
    obtain ⟨u2, u1⟩ := kok2 hu.1 b
    obtain ⟨x, hx⟩ := one_of t2
    obtain ⟨y, hy⟩ := one_of u2
    rw [txt2 a hx, txt2 b hy] at h
    injection h with _ h
    obtain ⟨e1, e2⟩ := ih x (by rw [hx]; exact List.mem_singleton_self _) y r s (shpL_mem ht.2 (by rw [hx]; exact List.mem_singleton_self _)) (shpL_mem hu.2 (by rw [hy]; exact List.mem_singleton_self _)) h
    exact ⟨by rw [same_eq, a, b, t1, u1, hx, hy]; simp [sameL, e1], e2⟩
  · have b : u.f0 = 3 := by omega
    obtain ⟨t2, t1, t3⟩ := kok3 ht.1 a
    obtain ⟨u2, u1, u3⟩ := kok3 hu.1 b
    obtain ⟨x, hx⟩ := one_of t2
    obtain ⟨y, hy⟩ := one_of u2
    rw [txt3 a hx, txt3 b hy] at h
    simp only [List.cons_append, List.append_assoc] at h
    injection h with _ h
    obtain ⟨e0, h⟩ := itoa_split t1 t3 u1 u3 h
    obtain ⟨e1, e2⟩ := ih x (by rw [hx]; exact List.mem_singleton_self _) y r s (shpL_mem ht.2 (by rw [hx]; exact List.mem_singleton_self _)) (shpL_mem hu.2 (by rw [hy]; exact List.mem_singleton_self _)) h
    exact ⟨by rw [same_eq, a, b, e0, hx, hy]; simp [sameL, e1], e2⟩
  · have b : u.f0 = 4 := by omega
    obtain ⟨t2, t3, t1⟩ := kok4 ht.1 a
    obtain ⟨u2, u3, u1⟩ := kok4 hu.1 b
    obtain ⟨ts, us⟩ := ht, hu
    match hx : t.f2, t2 with
    | x :: l, _ =>
      match hy : u.f2, u2 with
      | y :: k, _ =>
        rw [hx] at ht
        rw [hy] at hu
        have htl := ht.2
        have hul := hu.2
        simp only [shpL, Bool.and_eq_true] at htl hul
        rw [txt4 a hx, txt4 b hy] at h
        simp only [List.cons_append, List.append_assoc, List.nil_append] at h
        injection h with _ h
        obtain ⟨e1, e2⟩ := ih x (by rw [hx]; exact List.mem_cons_self) y _ _ htl.1 hul.1 h
        obtain ⟨e3, e4⟩ := txtT_inj (l := l) (fun z hz => ih z (by rw [hx]; exact List.mem_cons_of_mem _ hz)) k r s htl.2 hul.2 e2
        exact ⟨by rw [same_eq, a, b, t1, u1, hx, hy]; simp [sameL, e1, e3], e4⟩
/-! #### Where parts lie -/
theorem off_celL : ∀ (l : List S24) (x : Nat), x + celL l ≤ 1000000000 → off x l = ((x + celL l : Nat) : Int)
  | [], x, _ => by simp [off, celL]
  | y :: r, x, h => by
    simp only [celL] at h
    have e : IntKind.i64.wrap ((x : Int) + (cel y : Int)) = ((x + cel y : Nat) : Int) := by rw [w64 (by omega) (by omega)]; omega
    show off (IntKind.i64.wrap ((x : Int) + (cel y : Int))) r = _
    rw [e, off_celL r _ (by omega)]
    simp only [celL]
    congr 1; omega
theorem offset3 {t y : S24} (hd : dep t ≤ 900) (hc : cnt t ≤ 400) (hr : rgt t = true) (a3 : t.f0 = 3) (hy : t.f2 = [y]) (k : Nat) (hk : k ≤ 100) (k1 : (k : Int) < t.f1) : types_Offset.f t k = some (((k * cel y : Nat) : Int), true) := by
  have hym : y ∈ t.f2 := by rw [hy]; exact List.mem_singleton_self _
  have hsz : types_Size.f y = some (cel y : Int) := by
    rw [size_f (by have := depL_mem hym; have := dep_eq t; omega) ((kids_small hc).2 y hym), rgt_kids hr hym]; rfl
  have hat : at? t.f2 0 = some y := by rw [hy]; rfl
  unfold types_Offset.f
  rw [right_f (by omega) hc, hr]
  have k0 : ¬ (k : Int) < 0 := by omega
  have hcy := cel_le y
  have hm : k * cel y ≤ 100 * 1048577 := Nat.mul_le_mul hk hcy
  have hw : IntKind.i64.wrap ((k : Int) * (cel y : Int)) = ((k * cel y : Nat) : Int) := by
    rw [← Int.natCast_mul]
    exact w64 (by omega) (by omega)
  simp only [jn, Option.bind_some, hat, hsz, hw]
  simp [a3, k0, k1]
theorem offset4 {t : S24} (hd : dep t ≤ 900) (hc : cnt t ≤ 400) (hr : rgt t = true) (a4 : t.f0 = 4) (k : Nat) (hk : k < t.f2.length) : types_Offset.f t k = some (off 0 (t.f2.take k), true) := by
  obtain ⟨hl, hkc⟩ := kids_small hc
  have hde := dep_eq t
  have hsz : ∀ y ∈ t.f2, types_Size.f y = some (cel y : Int) := fun y hy => by rw [size_f (by have := depL_mem hy; omega) (hkc y hy), rgt_kids hr hy]; rfl
  have hcut : cut? t.f2 (0 : Int) (k : Int) = some (t.f2.take k) := by
    unfold cut?
    rw [if_pos ⟨by omega, by omega, by omega⟩]
    simp
  have e1 := off_l0 (l := t.f2.take k) (by rw [List.length_take]; omega) (fun y hy => hsz y (List.mem_of_mem_take hy)) (t.f2.take k) ((t.f2.take k).length + 1) 0 0 (by simp) (by omega) (by omega)
  have e1' : types_Offset.l0 (t.f2.take k) ((t.f2.take k).length + 1) 0 0 = _ := e1
  have k0 : ¬ (k : Int) < 0 := by omega
  have k2 : ¬ ((t.f2.length : Int) ≤ (k : Int)) := by omega
  unfold types_Offset.f
  rw [right_f (by omega) hc, hr]
  simp only [jn, Option.bind_some, hcut, e1']
  simp [a4, k0]
  omega
theorem celL_take (l : List S24) : ∀ k, celL (l.take k) ≤ celL l := by
  induction l with
  | nil => intro k; simp
  | cons x r ih =>
    intro k
    cases k with
    | zero => simp [celL]
    | succ k => simp only [List.take_succ_cons, celL]; have := ih k; omega
theorem celL_take_succ {l : List S24} {y : S24} : ∀ {k : Nat}, l[k]? = some y → celL (l.take (k + 1)) = celL (l.take k) + cel y := by
  induction l with
  | nil => intro k h; simp at h
  | cons x r ih =>
    intro k h
    cases k with
    | zero => simp at h; subst h; simp [celL]
    | succ k =>
      simp only [List.getElem?_cons_succ] at h
      simp only [List.take_succ_cons, celL]
      rw [ih h]; omega
theorem lie3 {t y : S24} (hd : dep t ≤ 900) (hc : cnt t ≤ 400) (hr : rgt t = true) (a3 : t.f0 = 3) (hy : t.f2 = [y]) {m : Nat} (hm : m ≤ 100) (hm1 : (m : Int) ≤ t.f1) :
    ∀ (n i : Nat), i ≤ m → m < i + n → swagelaw11_TypesLie.l0 t m n ((i * cel y : Nat) : Int) i = some (.inr ((m * cel y : Nat) : Int)) := by
  have hym : y ∈ t.f2 := by rw [hy]; exact List.mem_singleton_self _
  have hsz : types_Size.f (⟨y.f0, y.f1, y.f2⟩ : S24) = some (cel y : Int) := by
    rw [S24.eta, size_f (by have := depL_mem hym; have := dep_eq t; omega) ((kids_small hc).2 y hym), rgt_kids hr hym]; rfl
  have hat : at? t.f2 0 = some y := by rw [hy]; rfl
  have hcy := cel_le y
  intro n
  induction n with
  | zero => intro i h1 h2; omega
  | succ n ih =>
    intro i h1 h2
    rw [swagelaw11_TypesLie.l0]
    simp only [jn]
    by_cases hi : i < m
    · have hm2 : i * cel y ≤ 100 * 1048577 := Nat.mul_le_mul (by omega) hcy
      have hw : IntKind.i64.wrap (((i * cel y : Nat) : Int) + (cel y : Int)) = (((i + 1) * cel y : Nat) : Int) := by
        rw [w64 (by omega) (by omega), Nat.succ_mul]; omega
      rw [if_pos (by omega), offset3 hd hc hr a3 hy i (by omega) (by omega), hat]
      simp only [Option.bind_some, hsz]
      rw [hw, wsucc (by omega), ih (i + 1) (by omega) (by omega)]
      simp [a3]
    · have e : i = m := by omega
      subst e
      rw [if_neg (by omega)]
      simp
theorem lie4 {t : S24} (hd : dep t ≤ 900) (hc : cnt t ≤ 400) (hr : rgt t = true) (a4 : t.f0 = 4) (hce : celL t.f2 ≤ 1000000000) :
    ∀ (n i : Nat), i ≤ t.f2.length → t.f2.length < i + n → swagelaw11_TypesLie.l0 t t.f2.length n ((celL (t.f2.take i) : Nat) : Int) i = some (.inr ((celL t.f2 : Nat) : Int)) := by
  obtain ⟨hl, hkc⟩ := kids_small hc
  have hde := dep_eq t
  have hsz : ∀ y ∈ t.f2, types_Size.f (⟨y.f0, y.f1, y.f2⟩ : S24) = some (cel y : Int) := fun y hy => by rw [S24.eta, size_f (by have := depL_mem hy; omega) (hkc y hy), rgt_kids hr hy]; rfl
  intro n
  induction n with
  | zero => intro i h1 h2; omega
  | succ n ih =>
    intro i h1 h2
    rw [swagelaw11_TypesLie.l0]
    simp only [jn]
    by_cases hi : i < t.f2.length
    · have hct := celL_take t.f2 i
      obtain ⟨y, hy⟩ : ∃ y, t.f2[i]? = some y := ⟨_, List.getElem?_eq_getElem hi⟩
      have hym := List.mem_of_getElem? hy
      have hat : at? t.f2 (i : Int) = some y := by unfold at?; rw [if_pos (by omega)]; simpa using hy
      obtain ⟨z, hz⟩ : ∃ z, at? t.f2 0 = some z := by
        match hf : t.f2, hi with
        | z :: r, _ => exact ⟨z, rfl⟩
      have hcy := cel_le y
      have hw : IntKind.i64.wrap (((celL (t.f2.take i) : Nat) : Int) + (cel y : Int)) = ((celL (t.f2.take (i + 1)) : Nat) : Int) := by
        rw [celL_take_succ hy, w64 (by omega) (by omega)]; omega
      have ho : off 0 (t.f2.take i) = ((celL (t.f2.take i) : Nat) : Int) := by
        have := off_celL (t.f2.take i) 0 (by omega)
        rw [Nat.zero_add] at this
        exact this
      rw [if_pos (by omega), offset4 hd hc hr a4 i hi, hz, hat, ho]
      simp only [Option.bind_some, hsz y hym]
      rw [hw, wsucc (by omega), ih (i + 1) (by omega) (by omega)]
      simp [a4]
    · have e : i = t.f2.length := by omega
      subst e
      rw [if_neg (by omega)]
      simp
/-- THE LAW. -/
theorem typesLie_law (t u : S24) (h1 : ok24 t) (h2 : ok24 u) : swagelaw11_TypesLie.f t u = some true := by
  unfold swagelaw11_TypesLie.f
  obtain ⟨b1, e1, f1⟩ := few_f t
  obtain ⟨b2, e2, f2⟩ := few_f u
  rw [small_true, e1, e2]
  simp only [jn, Option.bind_some]
  cases b1 with
  | false => simp
  | true =>
  cases b2 with
  | false => simp
  | true =>
  obtain ⟨hc0, hd⟩ := f1 rfl
  obtain ⟨hc1, hd1⟩ := f2 rfl
  have hc : cnt t ≤ 400 := by omega
  have hcu : cnt u ≤ 400 := by omega
  rw [right_f (t := t) (by omega) hc, right_f (t := u) (by omega) hcu, size_f (t := t) (by omega) hc]
  have q12 : types_Text.f t = some (bt (txt t)) := text_fix 1000 t (by omega) hc h1
  have q13 : types_Text.f u = some (bt (txt u)) := text_fix 1000 u (by omega) hcu h2
  have q5 : types_Same.f t u = some (same t u) := same_fix 1000 t u (by omega) hc
  rw [q12, q13, q5]
  simp only [Option.bind_some, if_true, Bool.not_true, Bool.false_eq_true, if_false]
  cases hr : rgt t with
  | false => simp
  | true =>
  cases hru : rgt u with
  | false => simp
  | true =>
  have hst := shp_of_rgt hr
  have hsu := shp_of_rgt hru
  have htx : ((bt (txt t)).data.toList == (bt (txt u)).data.toList) = same t u := by
    rw [bt_list, bt_list]
    cases hs : same t u with
    | true => rw [same_eqv t u hs]; simp
    | false =>
      cases hb : (txt t == txt u) with
      | false => rfl
      | true =>
        have := (txt_inj t u [] [] hst hsu (by simpa using hb)).1
        rw [this] at hs; cases hs
  rw [htx]
  have hkok : kok t = true := by
    rw [shp_eq, Bool.and_eq_true] at hst
    exact hst.1
  have hcel : cel t ≤ 1048576 := by
    unfold rgt at hr
    rw [rt_eq] at hr
    simp only [Bool.and_eq_true, decide_eq_true_eq] at hr
    exact hr.1.2
  have hcelI : ((cel t : Int) ≤ 1048576) := by omega
  have hll := cntL_len t.f2
  simp only [beq_self_eq_true, Bool.not_true, Bool.false_eq_true, if_false, if_true]
  rcases kok_cases hkok with a | a | a | a
  · obtain ⟨t2, t1⟩ := kok1 hkok a
    have hl : swagelaw11_TypesLie.l0 t 0 1 0 0 = some (.inr 0) := by rw [swagelaw11_TypesLie.l0]; simp [jn]
    simp [a, t2, hl, hcelI]
  · obtain ⟨t2, t1⟩ := kok2 hkok a
    have hl : swagelaw11_TypesLie.l0 t 1 2 0 0 = some (.inr 0) := by rw [swagelaw11_TypesLie.l0]; simp [jn, a]
    simp [a, t2, hl, hcelI]
  · obtain ⟨t2, t1, t3⟩ := kok3 hkok a
    obtain ⟨y, hy⟩ := one_of t2
    obtain ⟨m, hm, hm1, hm2⟩ : ∃ m : Nat, (if (100 : Int) < t.f1 then (100 : Int) else t.f1) = (m : Int) ∧ m ≤ 100 ∧ (m : Int) ≤ t.f1 := by
      refine ⟨(min t.f1 100).toNat, ?_, ?_, ?_⟩
      · split <;> omega
      · omega
      · omega
    have hl := lie3 (by omega) hc hr a hy hm1 hm2 (m + 1) 0 (by omega) (by omega)
    have hl' : swagelaw11_TypesLie.l0 t m (m + 1) 0 0 = some (.inr ((m * cel y : Nat) : Int)) := by
      have e : ((0 * cel y : Nat) : Int) = 0 := by rw [Nat.zero_mul]; rfl
      rw [e] at hl
      exact hl
    have hle : m * cel y ≤ cel t := by
      have hce := cel_eq t
      rw [if_pos a, hy] at hce
      simp only [celH] at hce
      have h3 : m * cel y ≤ cel y * t.f1.toNat := by
        rw [Nat.mul_comm]; exact Nat.mul_le_mul_left _ (by omega)
      omega
    have hleI : (((m * cel y : Nat) : Int)) ≤ (cel t : Int) := by omega
    rw [if_pos a, hm, Int.toNat_natCast, hl']
    simp only [Option.bind_some]
    rw [if_pos hleI]
    simp [a, hcelI]
  · obtain ⟨t2, t3, t1⟩ := kok4 hkok a
    have hce : cel t = celL t.f2 := by
      have := cel_eq t
      rw [if_neg (by omega), if_pos a] at this
      omega
    have hl := lie4 (by omega) hc hr a (by omega) (t.f2.length + 1) 0 (by omega) (by omega)
    have hl' : swagelaw11_TypesLie.l0 t t.f2.length (t.f2.length + 1) 0 0 = some (.inr ((celL t.f2 : Nat) : Int)) := hl
    rw [if_neg (by omega), Int.toNat_natCast, hl']
    simp only [Option.bind_some]
    rw [← hce]
    simp [a, hcelI]
end Go.Proofs.YtdklnjmdaecboaaDoor.Sy
