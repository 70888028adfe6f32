/- Texts of this work, joined: SyF7, TyS, SyF38, SyF24, SyF56, SyF49, SyF40, SyF26, SyF4, TyE. -/
import Derived.Test.YtdklnjmdaecboaaDoorSyNTypesOfb
set_option linter.unusedVariables false
set_option linter.unusedSimpArgs false
set_option maxRecDepth 100000
set_option maxHeartbeats 4000000
namespace Go.Proofs.YtdklnjmdaecboaaDoor.Sy
open Go Go.RowKit Go.Proofs.YtdklnjmdaecboaaDoorW.PrintWords 
def swagelaw11_small.f : Option Bool := (swagelaw11_some.f).bind fun (y1 : S24) => (types_Offset.f y1 2).bind fun (y12 : (Int × Bool)) => (types_Of.f (⟨6, (⟨#[]⟩ : ByteArray), 0, ([(⟨5, (⟨#[]⟩ : ByteArray), 0, ([] : List S36)⟩ : S36)] : List S36)⟩ : S36)).bind fun (y23 : (S24 × Int)) => (types_Of.f (⟨18, (⟨#[]⟩ : ByteArray), 0, ([] : List S36)⟩ : S36)).bind fun (y29 : (S24 × Int)) => (swagelaw11_some.f).bind fun (y341 : S24) => (types_Right.f y341).bind fun (y352 : Bool) => (if y352 = true then (swagelaw11_some.f).bind fun (y356 : S24) => (types_Size.f y356).bind fun (y367 : Int) => (if y367 = 5 then (if y12.1 = 4 then (if y12.2 = true then (swagelaw11_some.f).bind fun (y375 : S24) => (types_Text.f y375).bind fun (y386 : ByteArray) => (if (y386.data.toList == (⟨#[40, 105, 110, 116, 44, 91, 51, 93, 42, 105, 110, 116, 44, 105, 110, 116, 41]⟩ : ByteArray).data.toList) = true then (if y23.2 = 0 then (types_Pointer.f (⟨1, 0, ([] : List S24)⟩ : S24)).bind fun (y392 : S24) => (types_Same.f y23.1 y392).bind fun (y403 : Bool) => (if y403 = true then (if y29.2 = 1 then (types_Scalar.f y23.1).bind fun (y409 : Bool) => (if y409 = true then (swagelaw11_some.f).bind fun (y413 : S24) => (types_Scalar.f y413).bind fun (y424 : Bool) => some (!y424) else some false) else some false) else some false) else some false) else some false) else some false) else some false) else some false) else some false)
def swagelaw11_small.post (G : Gd) (r : Bool) (v : Value) (G' : Gd) (Lr : List Ch) : Prop := G = G' ∧ v = .bool r ∧ Lr = []
theorem swagelaw11_small.calls {G : Gd} {r : Bool} (ht : Tab G) (h : swagelaw11_small.f = some r) : Fn Tryd.prog 7 G [] [] (swagelaw11_small.post G r) := by
  refine Fn.intro (e := []) 66 Tryd.func7 rfl Tryd.ntmps7 rfl rfl (Nat.le_of_ble_eq_true rfl) (fun L => ?_)
  unfold swagelaw11_small.f at h
  refine TC.seq ?_
  refine TC.region ?_
  refine TL.cons (TO.val rfl rfl rfl (Val.assign rfl) ?_)
  refine TL.nil ?_
  refine TQ.then_ ?_
  refine TC.seq ?_
  refine TC.region ?_
  obtain ⟨y1, hy2, h⟩ := bind_no h
  refine TL.cons (TL.callV (Lin := []) (args := []) rfl rfl rfl hbd27 rfl rfl (swagelaw11_some.calls hy2) rfl ?_)
  rintro _ _ _ _ ⟨rfl, A3, c4, rfl, rfl⟩
  refine TK.share (fun G6 e7 hs8 hb9 => ?_)
  have rd10 : Rd G6 k24 A3 y1.f2 := Rd.row hs8
  have le11 : y1.f2.length ≤ c4 := Row.le hs8
  obtain ⟨y12, hy13, h⟩ := bind_no h
  refine TL.cons (TL.callV (Lin := []) (args := [.agg #[.int .i64 y1.f0, .int .i64 y1.f1, .slice A3 y1.f2.length c4], .int .i64 2]) rfl rfl rfl hbd13 rfl rfl (types_Offset.calls (a0 := y1) (a1 := 2) rd10 le11 hy13) rfl ?_)
  rintro _ _ _ _ ⟨rfl, rfl, rfl⟩
  refine TL.cons (TO.val rfl rfl rfl (Val.move rfl) ?_)
  refine TL.cons (TO.val rfl rfl rfl (Val.extract rfl rfl) ?_)
  refine TL.cons (TO.val rfl rfl rfl (Val.extract rfl rfl) ?_)
  refine TL.cons (TO.val rfl rfl rfl (Val.assign rfl) ?_)
  refine TL.cons (TO.val rfl rfl rfl (Val.assign rfl) ?_)
  refine TL.nil ?_
  refine TQ.then_ ?_
  refine TC.seq ?_
  refine TC.region ?_
  refine TL.cons (TO.val rfl rfl rfl (Val.build (cs := [.int .i64 5, .string (⟨#[]⟩ : ByteArray), .int .i64 0, .slice none 0 0]) (is := [0]) (xs := [.const (.int .i64 5)]) Tryd.underlying36 zr36 bld36 rfl rfl rfl rfl) ?_)
  refine TL.cons (TL.buildSlice (xs := [.tmp 13]) (vs := [.agg #[.int .i64 5, .string (⟨#[]⟩ : ByteArray), .int .i64 0, .slice none 0 0]]) (cs := [.int .i64 5, .string (⟨#[]⟩ : ByteArray), .int .i64 0, .slice none 0 0]) rfl rfl Tryd.underlying34 zs36 rfl rfl rfl rfl rfl rfl rfl rfl (fun b14 => ?_))
  refine TL.cons (TO.val rfl rfl rfl (Val.build (cs := [.int .i64 6, .string (⟨#[]⟩ : ByteArray), .int .i64 0, .slice (some ⟨b14, 0, none⟩) 1 1]) (is := [0, 3]) (xs := [.const (.int .i64 6), .tmp 14]) Tryd.underlying36 zr36 bld36 rfl rfl rfl rfl) ?_)
  refine TK.new (Els.nil k36) ?_
  refine TK.new (Row.nil k36 36) ?_
  refine TK.conv (ch' := El k36 (⟨5, (⟨#[]⟩ : ByteArray), 0, ([] : List S36)⟩ : S36) [.int .i64 5, .string (⟨#[]⟩ : ByteArray), .int .i64 0, .slice none 0 0]) (fun B W F hh => k36_mkM W B F (⟨5, (⟨#[]⟩ : ByteArray), 0, ([] : List S36)⟩ : S36) hh) ?_
  refine TK.sel (Ls := [Els k36 [] [], El k36 (⟨5, (⟨#[]⟩ : ByteArray), 0, ([] : List S36)⟩ : S36) [.int .i64 5, .string (⟨#[]⟩ : ByteArray), .int .i64 0, .slice none 0 0], Blk b14 [.int .i64 5, .string (⟨#[]⟩ : ByteArray), .int .i64 0, .slice none 0 0] 36]) [1, 0, 2] 3 rfl rfl rfl ?_
  refine TK.two (ch := Els k36 [(⟨5, (⟨#[]⟩ : ByteArray), 0, ([] : List S36)⟩ : S36)] [.int .i64 5, .string (⟨#[]⟩ : ByteArray), .int .i64 0, .slice none 0 0]) (Els.snoc k36) ?_
  refine TK.sel (Ls := [Blk b14 [.int .i64 5, .string (⟨#[]⟩ : ByteArray), .int .i64 0, .slice none 0 0] 36, Els k36 [(⟨5, (⟨#[]⟩ : ByteArray), 0, ([] : List S36)⟩ : S36)] [.int .i64 5, .string (⟨#[]⟩ : ByteArray), .int .i64 0, .slice none 0 0]]) [1, 0] 2 rfl rfl rfl ?_
  refine TK.two (ch := Row k36 36 (.slice (some ⟨b14, 0, none⟩) 1 1) ([(⟨5, (⟨#[]⟩ : ByteArray), 0, ([] : List S36)⟩ : S36)] : List S36)) (Row.lit k36 rfl rfl) ?_
  refine TK.share (fun G17 e18 hs19 hb20 => ?_)
  have rd21 : Rd G17 k36 (some ⟨b14, 0, none⟩) ([(⟨5, (⟨#[]⟩ : ByteArray), 0, ([] : List S36)⟩ : S36)] : List S36) := Rd.row hs19
  have le22 : ([(⟨5, (⟨#[]⟩ : ByteArray), 0, ([] : List S36)⟩ : S36)] : List S36).length ≤ 1 := Row.le hs19
  obtain ⟨y23, hy24, h⟩ := bind_no h
  refine TL.cons (TL.callV (Lin := []) (args := [.agg #[.int .i64 6, .string (⟨#[]⟩ : ByteArray), .int .i64 0, .slice (some ⟨b14, 0, none⟩) 1 1]]) rfl rfl rfl hbd25 rfl rfl (types_Of.calls (a0 := (⟨6, (⟨#[]⟩ : ByteArray), 0, ([(⟨5, (⟨#[]⟩ : ByteArray), 0, ([] : List S36)⟩ : S36)] : List S36)⟩ : S36)) rd21 le22 hy24) rfl ?_)
  rintro _ _ _ _ ⟨rfl, A25, c26, rfl, rfl⟩
  refine TL.cons (TO.val rfl rfl rfl (Val.move rfl) ?_)
  refine TL.cons (TO.val rfl rfl rfl (Val.extract rfl rfl) ?_)
  refine TL.cons (TO.val rfl rfl rfl (Val.extract rfl rfl) ?_)
  refine TL.cons (TL.alloc (cs := [.int .i64 0, .int .i64 0, .slice none 0 0]) rfl rfl zr24 rfl (fun b28 => ?_))
  refine TL.cons (TL.store 0 (ds := [.int .i64 y23.1.f0, .int .i64 y23.1.f1, .slice A25 y23.1.f2.length c26]) (cs' := [.int .i64 y23.1.f0, .int .i64 y23.1.f1, .slice A25 y23.1.f2.length c26]) (L' := (Blk b28 [.int .i64 y23.1.f0, .int .i64 y23.1.f1, .slice A25 y23.1.f2.length c26] 24 :: Row k24 24 (.slice A25 y23.1.f2.length c26) y23.1.f2 :: L)) rfl fsz24 rfl rfl rfl rfl rfl (Nat.le_of_ble_eq_true rfl) rfl rfl ?_)
  refine TL.cons (TO.val rfl rfl rfl (Val.assign rfl) ?_)
  refine TL.nil ?_
  refine TQ.then_ ?_
  refine TC.seq ?_
  refine TC.region ?_
  refine TL.cons (TO.val rfl rfl rfl (Val.build (cs := [.int .i64 18, .string (⟨#[]⟩ : ByteArray), .int .i64 0, .slice none 0 0]) (is := [0]) (xs := [.const (.int .i64 18)]) Tryd.underlying36 zr36 bld36 rfl rfl rfl rfl) ?_)
  obtain ⟨y29, hy30, h⟩ := bind_no h
  refine TL.cons (TL.callV (Lin := []) (args := [.agg #[.int .i64 18, .string (⟨#[]⟩ : ByteArray), .int .i64 0, .slice none 0 0]]) rfl rfl rfl hbd25 rfl rfl (types_Of.calls (a0 := (⟨18, (⟨#[]⟩ : ByteArray), 0, ([] : List S36)⟩ : S36)) (Rd.nil _ _) (Nat.le_refl 0) hy30) rfl ?_)
  rintro _ _ _ _ ⟨rfl, A31, c32, rfl, rfl⟩
  refine TL.cons (TO.val rfl rfl rfl (Val.move rfl) ?_)
  refine TL.cons (TO.val rfl rfl rfl (Val.extract rfl rfl) ?_)
  refine TL.cons (TO.val rfl rfl rfl (Val.extract rfl rfl) ?_)
  refine TL.cons (TL.alloc (cs := [.int .i64 0, .int .i64 0, .slice none 0 0]) rfl rfl zr24 rfl (fun b34 => ?_))
  refine TL.cons (TL.store 0 (ds := [.int .i64 y29.1.f0, .int .i64 y29.1.f1, .slice A31 y29.1.f2.length c32]) (cs' := [.int .i64 y29.1.f0, .int .i64 y29.1.f1, .slice A31 y29.1.f2.length c32]) (L' := (Blk b34 [.int .i64 y29.1.f0, .int .i64 y29.1.f1, .slice A31 y29.1.f2.length c32] 24 :: Row k24 24 (.slice A31 y29.1.f2.length c32) y29.1.f2 :: Blk b28 [.int .i64 y23.1.f0, .int .i64 y23.1.f1, .slice A25 y23.1.f2.length c26] 24 :: Row k24 24 (.slice A25 y23.1.f2.length c26) y23.1.f2 :: L)) rfl fsz24 rfl rfl rfl rfl rfl (Nat.le_of_ble_eq_true rfl) rfl rfl ?_)
  refine TL.cons (TO.val rfl rfl rfl (Val.assign rfl) ?_)
  refine TL.nil ?_
  refine TQ.then_ ?_
  refine TC.seq ?_
  refine TC.back hb20 ?_
  refine TC.back hb9 ?_
  refine TC.sel (Ls := [Row k24 24 (.slice A25 y23.1.f2.length c26) y23.1.f2, Row k24 24 (.slice A3 y1.f2.length c4) y1.f2, Row k36 36 (.slice (some ⟨b14, 0, none⟩) 1 1) ([(⟨5, (⟨#[]⟩ : ByteArray), 0, ([] : List S36)⟩ : S36)] : List S36), Blk b34 [.int .i64 y29.1.f0, .int .i64 y29.1.f1, .slice A31 y29.1.f2.length c32] 24, Row k24 24 (.slice A31 y29.1.f2.length c32) y29.1.f2, Blk b28 [.int .i64 y23.1.f0, .int .i64 y23.1.f1, .slice A25 y23.1.f2.length c26] 24]) [5, 0, 1, 2, 3, 4] 6 rfl rfl rfl ?_
  refine TC.share (fun G335 e336 hs337 hb338 => ?_)
  have rd339 : Rd G335 k24 A25 y23.1.f2 := Rd.row hs337
  have le340 : y23.1.f2.length ≤ c26 := Row.le hs337
  refine TC.regionAny [] [2, 3, 4, 5, 6, 7, 8, 9, 10, 11, 12, 13, 14, 15, 16, 17, 18, 19, 20, 21, 22, 23, 24, 25, 26, 27, 28, 29, 30, 31, 32, 33, 34, 35, 36, 37, 38, 39, 40, 41, 42] mixed (by kernel_rfl) ?_
  obtain ⟨y341, hy342, h⟩ := bind_no h
  refine TA.eff 0 rfl (by kernel_rfl) rfl (TL.callV (Lin := []) (args := []) rfl rfl rfl hbd27 rfl rfl (swagelaw11_some.calls hy342) rfl ?_)
  rintro _ _ _ _ ⟨rfl, A343, c344, rfl, rfl⟩
  refine TA.next (fun W hO => hO.selT (Ls := [Row k24 24 (.slice A3 y1.f2.length c4) y1.f2, Row k36 36 (.slice (some ⟨b14, 0, none⟩) 1 1) ([(⟨5, (⟨#[]⟩ : ByteArray), 0, ([] : List S36)⟩ : S36)] : List S36), Blk b34 [.int .i64 y29.1.f0, .int .i64 y29.1.f1, .slice A31 y29.1.f2.length c32] 24, Row k24 24 (.slice A31 y29.1.f2.length c32) y29.1.f2, Blk b28 [.int .i64 y23.1.f0, .int .i64 y23.1.f1, .slice A25 y23.1.f2.length c26] 24]) [1, 2, 3, 4, 5] 6 rfl rfl rfl) ?_
  refine TK.share (fun G346 e347 hs348 hb349 => ?_)
  have rd350 : Rd G346 k24 A343 y341.f2 := Rd.row hs348
  have le351 : y341.f2.length ≤ c344 := Row.le hs348
  obtain ⟨y352, hy353, h⟩ := bind_no h
  refine TA.eff 1 rfl (by kernel_rfl) rfl (TL.callV (Lin := []) (args := [.agg #[.int .i64 y341.f0, .int .i64 y341.f1, .slice A343 y341.f2.length c344]]) rfl rfl rfl hbd15 rfl rfl (types_Right.calls (a0 := y341) rd350 le351 hy353) rfl ?_)
  rintro _ _ _ _ ⟨rfl, rfl, rfl⟩
  refine TA.next (fun W hO => (hb349 _ _ hO).selT (Ls := [Row k24 24 (.slice A3 y1.f2.length c4) y1.f2, Row k36 36 (.slice (some ⟨b14, 0, none⟩) 1 1) ([(⟨5, (⟨#[]⟩ : ByteArray), 0, ([] : List S36)⟩ : S36)] : List S36), Blk b34 [.int .i64 y29.1.f0, .int .i64 y29.1.f1, .slice A31 y29.1.f2.length c32] 24, Row k24 24 (.slice A31 y29.1.f2.length c32) y29.1.f2, Blk b28 [.int .i64 y23.1.f0, .int .i64 y23.1.f1, .slice A25 y23.1.f2.length c26] 24]) [1, 2, 3, 4, 5] 6 rfl rfl rfl) ?_
  refine TA.take 2 rfl (by kernel_rfl) rfl (PQ.then_ PQ.body) rfl (Val.move rfl) (fun W hO => (hb349 _ _ hO).selT (Ls := [Row k24 24 (.slice A3 y1.f2.length c4) y1.f2, Row k36 36 (.slice (some ⟨b14, 0, none⟩) 1 1) ([(⟨5, (⟨#[]⟩ : ByteArray), 0, ([] : List S36)⟩ : S36)] : List S36), Blk b34 [.int .i64 y29.1.f0, .int .i64 y29.1.f1, .slice A31 y29.1.f2.length c32] 24, Row k24 24 (.slice A31 y29.1.f2.length c32) y29.1.f2, Blk b28 [.int .i64 y23.1.f0, .int .i64 y23.1.f1, .slice A25 y23.1.f2.length c26] 24]) [1, 2, 3, 4, 5] 6 rfl rfl rfl) ?_
  refine TK.split (p := y352 = true) h (fun hg354 h => ?_) (fun hg354 h => ?_)
  · have hk355 : y352 = true := hg354
    obtain ⟨y356, hy357, h⟩ := bind_no h
    refine TA.eff 3 rfl (by kernel_rfl) rfl (TL.callV (Lin := []) (args := []) (Wt.yes rfl rfl rfl hk355) rfl rfl hbd27 rfl rfl (swagelaw11_some.calls hy357) rfl ?_)
    rintro _ _ _ _ ⟨rfl, A358, c359, rfl, rfl⟩
    refine TA.next (fun W hO => (hb349 _ _ hO).selT (Ls := [Row k24 24 (.slice A3 y1.f2.length c4) y1.f2, Row k36 36 (.slice (some ⟨b14, 0, none⟩) 1 1) ([(⟨5, (⟨#[]⟩ : ByteArray), 0, ([] : List S36)⟩ : S36)] : List S36), Blk b34 [.int .i64 y29.1.f0, .int .i64 y29.1.f1, .slice A31 y29.1.f2.length c32] 24, Row k24 24 (.slice A31 y29.1.f2.length c32) y29.1.f2, Blk b28 [.int .i64 y23.1.f0, .int .i64 y23.1.f1, .slice A25 y23.1.f2.length c26] 24]) [2, 3, 4, 5, 6] 7 rfl rfl rfl) ?_
    refine TK.share (fun G361 e362 hs363 hb364 => ?_)
    have rd365 : Rd G361 k24 A358 y356.f2 := Rd.row hs363
    have le366 : y356.f2.length ≤ c359 := Row.le hs363
    obtain ⟨y367, hy368, h⟩ := bind_no h
    refine TA.eff 4 rfl (by kernel_rfl) rfl (TL.callV (Lin := []) (args := [.agg #[.int .i64 y356.f0, .int .i64 y356.f1, .slice A358 y356.f2.length c359]]) (Wt.yes rfl rfl rfl hk355) rfl rfl hbd17 rfl rfl (types_Size.calls (a0 := y356) rd365 le366 hy368) rfl ?_)
    rintro _ _ _ _ ⟨rfl, rfl, rfl⟩
    refine TA.next (fun W hO => (hb349 _ _ (hb364 _ _ hO)).selT (Ls := [Row k24 24 (.slice A3 y1.f2.length c4) y1.f2, Row k36 36 (.slice (some ⟨b14, 0, none⟩) 1 1) ([(⟨5, (⟨#[]⟩ : ByteArray), 0, ([] : List S36)⟩ : S36)] : List S36), Blk b34 [.int .i64 y29.1.f0, .int .i64 y29.1.f1, .slice A31 y29.1.f2.length c32] 24, Row k24 24 (.slice A31 y29.1.f2.length c32) y29.1.f2, Blk b28 [.int .i64 y23.1.f0, .int .i64 y23.1.f1, .slice A25 y23.1.f2.length c26] 24]) [2, 3, 4, 5, 6] 7 rfl rfl rfl) ?_
    refine TA.take 5 rfl (by kernel_rfl) rfl (PQ.then_ PQ.body) (Wt.yes rfl rfl rfl hk355) (Val.cmp rfl rfl run_eql) (fun W hO => (hb349 _ _ (hb364 _ _ hO)).selT (Ls := [Row k24 24 (.slice A3 y1.f2.length c4) y1.f2, Row k36 36 (.slice (some ⟨b14, 0, none⟩) 1 1) ([(⟨5, (⟨#[]⟩ : ByteArray), 0, ([] : List S36)⟩ : S36)] : List S36), Blk b34 [.int .i64 y29.1.f0, .int .i64 y29.1.f1, .slice A31 y29.1.f2.length c32] 24, Row k24 24 (.slice A31 y29.1.f2.length c32) y29.1.f2, Blk b28 [.int .i64 y23.1.f0, .int .i64 y23.1.f1, .slice A25 y23.1.f2.length c26] 24]) [2, 3, 4, 5, 6] 7 rfl rfl rfl) ?_
    refine TA.take 6 rfl (by kernel_rfl) rfl (PQ.then_ PQ.body) rfl (Val.pickY rfl hk355 rfl) (fun W hO => (hb349 _ _ (hb364 _ _ hO)).selT (Ls := [Row k24 24 (.slice A3 y1.f2.length c4) y1.f2, Row k36 36 (.slice (some ⟨b14, 0, none⟩) 1 1) ([(⟨5, (⟨#[]⟩ : ByteArray), 0, ([] : List S36)⟩ : S36)] : List S36), Blk b34 [.int .i64 y29.1.f0, .int .i64 y29.1.f1, .slice A31 y29.1.f2.length c32] 24, Row k24 24 (.slice A31 y29.1.f2.length c32) y29.1.f2, Blk b28 [.int .i64 y23.1.f0, .int .i64 y23.1.f1, .slice A25 y23.1.f2.length c26] 24]) [2, 3, 4, 5, 6] 7 rfl rfl rfl) ?_
    refine TA.take 7 rfl (by kernel_rfl) rfl (PQ.then_ PQ.body) rfl (Val.move rfl) (fun W hO => (hb349 _ _ (hb364 _ _ hO)).selT (Ls := [Row k24 24 (.slice A3 y1.f2.length c4) y1.f2, Row k36 36 (.slice (some ⟨b14, 0, none⟩) 1 1) ([(⟨5, (⟨#[]⟩ : ByteArray), 0, ([] : List S36)⟩ : S36)] : List S36), Blk b34 [.int .i64 y29.1.f0, .int .i64 y29.1.f1, .slice A31 y29.1.f2.length c32] 24, Row k24 24 (.slice A31 y29.1.f2.length c32) y29.1.f2, Blk b28 [.int .i64 y23.1.f0, .int .i64 y23.1.f1, .slice A25 y23.1.f2.length c26] 24]) [2, 3, 4, 5, 6] 7 rfl rfl rfl) ?_
    refine TK.split (p := y367 = 5) h (fun hg369 h => ?_) (fun hg369 h => ?_)
    · have hk370 : decide (y367 = 5) = true := decide_eq_true hg369
      refine TA.take 8 rfl (by kernel_rfl) rfl (PQ.then_ PQ.body) (Wt.yes rfl rfl rfl hk370) (Val.move rfl) (fun W hO => (hb349 _ _ (hb364 _ _ hO)).selT (Ls := [Row k24 24 (.slice A3 y1.f2.length c4) y1.f2, Row k36 36 (.slice (some ⟨b14, 0, none⟩) 1 1) ([(⟨5, (⟨#[]⟩ : ByteArray), 0, ([] : List S36)⟩ : S36)] : List S36), Blk b34 [.int .i64 y29.1.f0, .int .i64 y29.1.f1, .slice A31 y29.1.f2.length c32] 24, Row k24 24 (.slice A31 y29.1.f2.length c32) y29.1.f2, Blk b28 [.int .i64 y23.1.f0, .int .i64 y23.1.f1, .slice A25 y23.1.f2.length c26] 24]) [2, 3, 4, 5, 6] 7 rfl rfl rfl) ?_
      refine TA.take 9 rfl (by kernel_rfl) rfl (PQ.then_ PQ.body) (Wt.yes rfl rfl rfl hk370) (Val.cmp rfl rfl run_eql) (fun W hO => (hb349 _ _ (hb364 _ _ hO)).selT (Ls := [Row k24 24 (.slice A3 y1.f2.length c4) y1.f2, Row k36 36 (.slice (some ⟨b14, 0, none⟩) 1 1) ([(⟨5, (⟨#[]⟩ : ByteArray), 0, ([] : List S36)⟩ : S36)] : List S36), Blk b34 [.int .i64 y29.1.f0, .int .i64 y29.1.f1, .slice A31 y29.1.f2.length c32] 24, Row k24 24 (.slice A31 y29.1.f2.length c32) y29.1.f2, Blk b28 [.int .i64 y23.1.f0, .int .i64 y23.1.f1, .slice A25 y23.1.f2.length c26] 24]) [2, 3, 4, 5, 6] 7 rfl rfl rfl) ?_
      refine TA.take 10 rfl (by kernel_rfl) rfl (PQ.then_ PQ.body) rfl (Val.pickY rfl hk370 rfl) (fun W hO => (hb349 _ _ (hb364 _ _ hO)).selT (Ls := [Row k24 24 (.slice A3 y1.f2.length c4) y1.f2, Row k36 36 (.slice (some ⟨b14, 0, none⟩) 1 1) ([(⟨5, (⟨#[]⟩ : ByteArray), 0, ([] : List S36)⟩ : S36)] : List S36), Blk b34 [.int .i64 y29.1.f0, .int .i64 y29.1.f1, .slice A31 y29.1.f2.length c32] 24, Row k24 24 (.slice A31 y29.1.f2.length c32) y29.1.f2, Blk b28 [.int .i64 y23.1.f0, .int .i64 y23.1.f1, .slice A25 y23.1.f2.length c26] 24]) [2, 3, 4, 5, 6] 7 rfl rfl rfl) ?_
      refine TA.take 11 rfl (by kernel_rfl) rfl (PQ.then_ PQ.body) rfl (Val.move rfl) (fun W hO => (hb349 _ _ (hb364 _ _ hO)).selT (Ls := [Row k24 24 (.slice A3 y1.f2.length c4) y1.f2, Row k36 36 (.slice (some ⟨b14, 0, none⟩) 1 1) ([(⟨5, (⟨#[]⟩ : ByteArray), 0, ([] : List S36)⟩ : S36)] : List S36), Blk b34 [.int .i64 y29.1.f0, .int .i64 y29.1.f1, .slice A31 y29.1.f2.length c32] 24, Row k24 24 (.slice A31 y29.1.f2.length c32) y29.1.f2, Blk b28 [.int .i64 y23.1.f0, .int .i64 y23.1.f1, .slice A25 y23.1.f2.length c26] 24]) [2, 3, 4, 5, 6] 7 rfl rfl rfl) ?_
      refine TK.split (p := y12.1 = 4) h (fun hg371 h => ?_) (fun hg371 h => ?_)
      · have hk372 : decide (y12.1 = 4) = true := decide_eq_true hg371
        refine TA.take 12 rfl (by kernel_rfl) rfl (PQ.then_ PQ.body) (Wt.yes rfl rfl rfl hk372) (Val.move rfl) (fun W hO => (hb349 _ _ (hb364 _ _ hO)).selT (Ls := [Row k24 24 (.slice A3 y1.f2.length c4) y1.f2, Row k36 36 (.slice (some ⟨b14, 0, none⟩) 1 1) ([(⟨5, (⟨#[]⟩ : ByteArray), 0, ([] : List S36)⟩ : S36)] : List S36), Blk b34 [.int .i64 y29.1.f0, .int .i64 y29.1.f1, .slice A31 y29.1.f2.length c32] 24, Row k24 24 (.slice A31 y29.1.f2.length c32) y29.1.f2, Blk b28 [.int .i64 y23.1.f0, .int .i64 y23.1.f1, .slice A25 y23.1.f2.length c26] 24]) [2, 3, 4, 5, 6] 7 rfl rfl rfl) ?_
        refine TA.take 13 rfl (by kernel_rfl) rfl (PQ.then_ PQ.body) rfl (Val.pickY rfl hk372 rfl) (fun W hO => (hb349 _ _ (hb364 _ _ hO)).selT (Ls := [Row k24 24 (.slice A3 y1.f2.length c4) y1.f2, Row k36 36 (.slice (some ⟨b14, 0, none⟩) 1 1) ([(⟨5, (⟨#[]⟩ : ByteArray), 0, ([] : List S36)⟩ : S36)] : List S36), Blk b34 [.int .i64 y29.1.f0, .int .i64 y29.1.f1, .slice A31 y29.1.f2.length c32] 24, Row k24 24 (.slice A31 y29.1.f2.length c32) y29.1.f2, Blk b28 [.int .i64 y23.1.f0, .int .i64 y23.1.f1, .slice A25 y23.1.f2.length c26] 24]) [2, 3, 4, 5, 6] 7 rfl rfl rfl) ?_
        refine TA.take 14 rfl (by kernel_rfl) rfl (PQ.then_ PQ.body) rfl (Val.move rfl) (fun W hO => (hb349 _ _ (hb364 _ _ hO)).selT (Ls := [Row k24 24 (.slice A3 y1.f2.length c4) y1.f2, Row k36 36 (.slice (some ⟨b14, 0, none⟩) 1 1) ([(⟨5, (⟨#[]⟩ : ByteArray), 0, ([] : List S36)⟩ : S36)] : List S36), Blk b34 [.int .i64 y29.1.f0, .int .i64 y29.1.f1, .slice A31 y29.1.f2.length c32] 24, Row k24 24 (.slice A31 y29.1.f2.length c32) y29.1.f2, Blk b28 [.int .i64 y23.1.f0, .int .i64 y23.1.f1, .slice A25 y23.1.f2.length c26] 24]) [2, 3, 4, 5, 6] 7 rfl rfl rfl) ?_
        refine TK.split (p := y12.2 = true) h (fun hg373 h => ?_) (fun hg373 h => ?_)
        · have hk374 : y12.2 = true := hg373
          obtain ⟨y375, hy376, h⟩ := bind_no h
          refine TA.eff 15 rfl (by kernel_rfl) rfl (TL.callV (Lin := []) (args := []) (Wt.yes rfl rfl rfl hk374) rfl rfl hbd27 rfl rfl (swagelaw11_some.calls hy376) rfl ?_)
          rintro _ _ _ _ ⟨rfl, A377, c378, rfl, rfl⟩
          refine TA.next (fun W hO => (hb349 _ _ (hb364 _ _ hO)).selT (Ls := [Row k24 24 (.slice A3 y1.f2.length c4) y1.f2, Row k36 36 (.slice (some ⟨b14, 0, none⟩) 1 1) ([(⟨5, (⟨#[]⟩ : ByteArray), 0, ([] : List S36)⟩ : S36)] : List S36), Blk b34 [.int .i64 y29.1.f0, .int .i64 y29.1.f1, .slice A31 y29.1.f2.length c32] 24, Row k24 24 (.slice A31 y29.1.f2.length c32) y29.1.f2, Blk b28 [.int .i64 y23.1.f0, .int .i64 y23.1.f1, .slice A25 y23.1.f2.length c26] 24]) [3, 4, 5, 6, 7] 8 rfl rfl rfl) ?_
          refine TK.share (fun G380 e381 hs382 hb383 => ?_)
          have rd384 : Rd G380 k24 A377 y375.f2 := Rd.row hs382
          have le385 : y375.f2.length ≤ c378 := Row.le hs382
          obtain ⟨y386, hy387, h⟩ := bind_no h
          refine TA.eff 16 rfl (by kernel_rfl) rfl (TL.callV (Lin := []) (args := [.agg #[.int .i64 y375.f0, .int .i64 y375.f1, .slice A377 y375.f2.length c378]]) (Wt.yes rfl rfl rfl hk374) rfl rfl hbd22 rfl rfl (types_Text.calls (a0 := y375) (ht.up (Gd.le.trans (Gd.le.trans (Gd.le.trans e336 e347) e362) e381)) rd384 le385 hy387) rfl ?_)
          rintro _ _ _ _ ⟨rfl, rfl, rfl⟩
          refine TA.next (fun W hO => (hb349 _ _ (hb364 _ _ (hb383 _ _ hO))).selT (Ls := [Row k24 24 (.slice A3 y1.f2.length c4) y1.f2, Row k36 36 (.slice (some ⟨b14, 0, none⟩) 1 1) ([(⟨5, (⟨#[]⟩ : ByteArray), 0, ([] : List S36)⟩ : S36)] : List S36), Blk b34 [.int .i64 y29.1.f0, .int .i64 y29.1.f1, .slice A31 y29.1.f2.length c32] 24, Row k24 24 (.slice A31 y29.1.f2.length c32) y29.1.f2, Blk b28 [.int .i64 y23.1.f0, .int .i64 y23.1.f1, .slice A25 y23.1.f2.length c26] 24]) [3, 4, 5, 6, 7] 8 rfl rfl rfl) ?_
          refine TA.take 17 rfl (by kernel_rfl) rfl (PQ.then_ PQ.body) (Wt.yes rfl rfl rfl hk374) (Val.eqT rfl rfl) (fun W hO => (hb349 _ _ (hb364 _ _ (hb383 _ _ hO))).selT (Ls := [Row k24 24 (.slice A3 y1.f2.length c4) y1.f2, Row k36 36 (.slice (some ⟨b14, 0, none⟩) 1 1) ([(⟨5, (⟨#[]⟩ : ByteArray), 0, ([] : List S36)⟩ : S36)] : List S36), Blk b34 [.int .i64 y29.1.f0, .int .i64 y29.1.f1, .slice A31 y29.1.f2.length c32] 24, Row k24 24 (.slice A31 y29.1.f2.length c32) y29.1.f2, Blk b28 [.int .i64 y23.1.f0, .int .i64 y23.1.f1, .slice A25 y23.1.f2.length c26] 24]) [3, 4, 5, 6, 7] 8 rfl rfl rfl) ?_
          refine TA.take 18 rfl (by kernel_rfl) rfl (PQ.then_ PQ.body) rfl (Val.pickY rfl hk374 rfl) (fun W hO => (hb349 _ _ (hb364 _ _ (hb383 _ _ hO))).selT (Ls := [Row k24 24 (.slice A3 y1.f2.length c4) y1.f2, Row k36 36 (.slice (some ⟨b14, 0, none⟩) 1 1) ([(⟨5, (⟨#[]⟩ : ByteArray), 0, ([] : List S36)⟩ : S36)] : List S36), Blk b34 [.int .i64 y29.1.f0, .int .i64 y29.1.f1, .slice A31 y29.1.f2.length c32] 24, Row k24 24 (.slice A31 y29.1.f2.length c32) y29.1.f2, Blk b28 [.int .i64 y23.1.f0, .int .i64 y23.1.f1, .slice A25 y23.1.f2.length c26] 24]) [3, 4, 5, 6, 7] 8 rfl rfl rfl) ?_
          refine TA.take 19 rfl (by kernel_rfl) rfl (PQ.then_ PQ.body) rfl (Val.move rfl) (fun W hO => (hb349 _ _ (hb364 _ _ (hb383 _ _ hO))).selT (Ls := [Row k24 24 (.slice A3 y1.f2.length c4) y1.f2, Row k36 36 (.slice (some ⟨b14, 0, none⟩) 1 1) ([(⟨5, (⟨#[]⟩ : ByteArray), 0, ([] : List S36)⟩ : S36)] : List S36), Blk b34 [.int .i64 y29.1.f0, .int .i64 y29.1.f1, .slice A31 y29.1.f2.length c32] 24, Row k24 24 (.slice A31 y29.1.f2.length c32) y29.1.f2, Blk b28 [.int .i64 y23.1.f0, .int .i64 y23.1.f1, .slice A25 y23.1.f2.length c26] 24]) [3, 4, 5, 6, 7] 8 rfl rfl rfl) ?_
          refine TK.split (p := (y386.data.toList == (⟨#[40, 105, 110, 116, 44, 91, 51, 93, 42, 105, 110, 116, 44, 105, 110, 116, 41]⟩ : ByteArray).data.toList) = true) h (fun hg388 h => ?_) (fun hg388 h => ?_)
          · have hk389 : (y386.data.toList == (⟨#[40, 105, 110, 116, 44, 91, 51, 93, 42, 105, 110, 116, 44, 105, 110, 116, 41]⟩ : ByteArray).data.toList) = true := hg388
            refine TA.take 20 rfl (by kernel_rfl) rfl (PQ.then_ PQ.body) (Wt.yes rfl rfl rfl hk389) (Val.move rfl) (fun W hO => (hb349 _ _ (hb364 _ _ (hb383 _ _ hO))).selT (Ls := [Row k24 24 (.slice A3 y1.f2.length c4) y1.f2, Row k36 36 (.slice (some ⟨b14, 0, none⟩) 1 1) ([(⟨5, (⟨#[]⟩ : ByteArray), 0, ([] : List S36)⟩ : S36)] : List S36), Blk b34 [.int .i64 y29.1.f0, .int .i64 y29.1.f1, .slice A31 y29.1.f2.length c32] 24, Row k24 24 (.slice A31 y29.1.f2.length c32) y29.1.f2, Blk b28 [.int .i64 y23.1.f0, .int .i64 y23.1.f1, .slice A25 y23.1.f2.length c26] 24]) [3, 4, 5, 6, 7] 8 rfl rfl rfl) ?_
            refine TA.take 21 rfl (by kernel_rfl) rfl (PQ.then_ PQ.body) (Wt.yes rfl rfl rfl hk389) (Val.cmp rfl rfl run_eql) (fun W hO => (hb349 _ _ (hb364 _ _ (hb383 _ _ hO))).selT (Ls := [Row k24 24 (.slice A3 y1.f2.length c4) y1.f2, Row k36 36 (.slice (some ⟨b14, 0, none⟩) 1 1) ([(⟨5, (⟨#[]⟩ : ByteArray), 0, ([] : List S36)⟩ : S36)] : List S36), Blk b34 [.int .i64 y29.1.f0, .int .i64 y29.1.f1, .slice A31 y29.1.f2.length c32] 24, Row k24 24 (.slice A31 y29.1.f2.length c32) y29.1.f2, Blk b28 [.int .i64 y23.1.f0, .int .i64 y23.1.f1, .slice A25 y23.1.f2.length c26] 24]) [3, 4, 5, 6, 7] 8 rfl rfl rfl) ?_
            refine TA.take 22 rfl (by kernel_rfl) rfl (PQ.then_ PQ.body) rfl (Val.pickY rfl hk389 rfl) (fun W hO => (hb349 _ _ (hb364 _ _ (hb383 _ _ hO))).selT (Ls := [Row k24 24 (.slice A3 y1.f2.length c4) y1.f2, Row k36 36 (.slice (some ⟨b14, 0, none⟩) 1 1) ([(⟨5, (⟨#[]⟩ : ByteArray), 0, ([] : List S36)⟩ : S36)] : List S36), Blk b34 [.int .i64 y29.1.f0, .int .i64 y29.1.f1, .slice A31 y29.1.f2.length c32] 24, Row k24 24 (.slice A31 y29.1.f2.length c32) y29.1.f2, Blk b28 [.int .i64 y23.1.f0, .int .i64 y23.1.f1, .slice A25 y23.1.f2.length c26] 24]) [3, 4, 5, 6, 7] 8 rfl rfl rfl) ?_
            refine TA.take 23 rfl (by kernel_rfl) rfl (PQ.then_ PQ.body) rfl (Val.move rfl) (fun W hO => (hb349 _ _ (hb364 _ _ (hb383 _ _ hO))).selT (Ls := [Row k24 24 (.slice A3 y1.f2.length c4) y1.f2, Row k36 36 (.slice (some ⟨b14, 0, none⟩) 1 1) ([(⟨5, (⟨#[]⟩ : ByteArray), 0, ([] : List S36)⟩ : S36)] : List S36), Blk b34 [.int .i64 y29.1.f0, .int .i64 y29.1.f1, .slice A31 y29.1.f2.length c32] 24, Row k24 24 (.slice A31 y29.1.f2.length c32) y29.1.f2, Blk b28 [.int .i64 y23.1.f0, .int .i64 y23.1.f1, .slice A25 y23.1.f2.length c26] 24]) [3, 4, 5, 6, 7] 8 rfl rfl rfl) ?_
            refine TK.split (p := y23.2 = 0) h (fun hg390 h => ?_) (fun hg390 h => ?_)
            · have hk391 : decide (y23.2 = 0) = true := decide_eq_true hg390
              refine TA.take 24 rfl (by kernel_rfl) rfl (PQ.then_ PQ.body) (Wt.yes rfl rfl rfl hk391) (Val.loadsB 4 (cs := [.int .i64 y23.1.f0, .int .i64 y23.1.f1, .slice A25 y23.1.f2.length c26]) agg24 fsz24 rfl rfl rfl rfl) (fun W hO => (hb349 _ _ (hb364 _ _ (hb383 _ _ hO))).selT (Ls := [Row k24 24 (.slice A3 y1.f2.length c4) y1.f2, Row k36 36 (.slice (some ⟨b14, 0, none⟩) 1 1) ([(⟨5, (⟨#[]⟩ : ByteArray), 0, ([] : List S36)⟩ : S36)] : List S36), Blk b34 [.int .i64 y29.1.f0, .int .i64 y29.1.f1, .slice A31 y29.1.f2.length c32] 24, Row k24 24 (.slice A31 y29.1.f2.length c32) y29.1.f2, Blk b28 [.int .i64 y23.1.f0, .int .i64 y23.1.f1, .slice A25 y23.1.f2.length c26] 24]) [3, 4, 5, 6, 7] 8 rfl rfl rfl) ?_
              refine TA.take 25 rfl (by kernel_rfl) rfl (PQ.then_ PQ.body) (Wt.yes rfl rfl rfl hk391) (Val.build (cs := [.int .i64 1, .int .i64 0, .slice none 0 0]) (is := [0]) (xs := [.const (.int .i64 1)]) Tryd.underlying24 zr24 bld24 rfl rfl rfl rfl) (fun W hO => (hb349 _ _ (hb364 _ _ (hb383 _ _ hO))).selT (Ls := [Row k24 24 (.slice A3 y1.f2.length c4) y1.f2, Row k36 36 (.slice (some ⟨b14, 0, none⟩) 1 1) ([(⟨5, (⟨#[]⟩ : ByteArray), 0, ([] : List S36)⟩ : S36)] : List S36), Blk b34 [.int .i64 y29.1.f0, .int .i64 y29.1.f1, .slice A31 y29.1.f2.length c32] 24, Row k24 24 (.slice A31 y29.1.f2.length c32) y29.1.f2, Blk b28 [.int .i64 y23.1.f0, .int .i64 y23.1.f1, .slice A25 y23.1.f2.length c26] 24]) [3, 4, 5, 6, 7] 8 rfl rfl rfl) ?_
              obtain ⟨y392, hy393, h⟩ := bind_no h
              refine TA.eff 26 rfl (by kernel_rfl) rfl (TL.callV (Lin := []) (args := [.agg #[.int .i64 1, .int .i64 0, .slice none 0 0]]) (Wt.yes rfl rfl rfl hk391) rfl rfl hbd11 rfl rfl (types_Pointer.calls (a0 := (⟨1, 0, ([] : List S24)⟩ : S24)) (Rd.nil _ _) (Nat.le_refl 0) hy393) rfl ?_)
              rintro _ _ _ _ ⟨rfl, A394, c395, rfl, rfl⟩
              refine TA.next (fun W hO => (hb349 _ _ (hb364 _ _ (hb383 _ _ hO))).selT (Ls := [Row k24 24 (.slice A3 y1.f2.length c4) y1.f2, Row k36 36 (.slice (some ⟨b14, 0, none⟩) 1 1) ([(⟨5, (⟨#[]⟩ : ByteArray), 0, ([] : List S36)⟩ : S36)] : List S36), Blk b34 [.int .i64 y29.1.f0, .int .i64 y29.1.f1, .slice A31 y29.1.f2.length c32] 24, Row k24 24 (.slice A31 y29.1.f2.length c32) y29.1.f2, Blk b28 [.int .i64 y23.1.f0, .int .i64 y23.1.f1, .slice A25 y23.1.f2.length c26] 24]) [4, 5, 6, 7, 8] 9 rfl rfl rfl) ?_
              refine TK.share (fun G397 e398 hs399 hb400 => ?_)
              have rd401 : Rd G397 k24 A394 y392.f2 := Rd.row hs399
              have le402 : y392.f2.length ≤ c395 := Row.le hs399
              obtain ⟨y403, hy404, h⟩ := bind_no h
              refine TA.eff 27 rfl (by kernel_rfl) rfl (TL.callV (Lin := []) (args := [.agg #[.int .i64 y23.1.f0, .int .i64 y23.1.f1, .slice A25 y23.1.f2.length c26], .agg #[.int .i64 y392.f0, .int .i64 y392.f1, .slice A394 y392.f2.length c395]]) (Wt.yes rfl rfl rfl hk391) rfl rfl hbd19 rfl rfl (types_Same.calls (a0 := y23.1) (a1 := y392) (rd339.up (Gd.le.trans (Gd.le.trans (Gd.le.trans e347 e362) e381) e398)) le340 rd401 le402 hy404) rfl ?_)
              rintro _ _ _ _ ⟨rfl, rfl, rfl⟩
              refine TA.next (fun W hO => (hb349 _ _ (hb364 _ _ (hb383 _ _ (hb400 _ _ hO)))).selT (Ls := [Row k24 24 (.slice A3 y1.f2.length c4) y1.f2, Row k36 36 (.slice (some ⟨b14, 0, none⟩) 1 1) ([(⟨5, (⟨#[]⟩ : ByteArray), 0, ([] : List S36)⟩ : S36)] : List S36), Blk b34 [.int .i64 y29.1.f0, .int .i64 y29.1.f1, .slice A31 y29.1.f2.length c32] 24, Row k24 24 (.slice A31 y29.1.f2.length c32) y29.1.f2, Blk b28 [.int .i64 y23.1.f0, .int .i64 y23.1.f1, .slice A25 y23.1.f2.length c26] 24]) [4, 5, 6, 7, 8] 9 rfl rfl rfl) ?_
              refine TA.take 28 rfl (by kernel_rfl) rfl (PQ.then_ PQ.body) rfl (Val.pickY rfl hk391 rfl) (fun W hO => (hb349 _ _ (hb364 _ _ (hb383 _ _ (hb400 _ _ hO)))).selT (Ls := [Row k24 24 (.slice A3 y1.f2.length c4) y1.f2, Row k36 36 (.slice (some ⟨b14, 0, none⟩) 1 1) ([(⟨5, (⟨#[]⟩ : ByteArray), 0, ([] : List S36)⟩ : S36)] : List S36), Blk b34 [.int .i64 y29.1.f0, .int .i64 y29.1.f1, .slice A31 y29.1.f2.length c32] 24, Row k24 24 (.slice A31 y29.1.f2.length c32) y29.1.f2, Blk b28 [.int .i64 y23.1.f0, .int .i64 y23.1.f1, .slice A25 y23.1.f2.length c26] 24]) [4, 5, 6, 7, 8] 9 rfl rfl rfl) ?_
              refine TA.take 29 rfl (by kernel_rfl) rfl (PQ.then_ PQ.body) rfl (Val.move rfl) (fun W hO => (hb349 _ _ (hb364 _ _ (hb383 _ _ (hb400 _ _ hO)))).selT (Ls := [Row k24 24 (.slice A3 y1.f2.length c4) y1.f2, Row k36 36 (.slice (some ⟨b14, 0, none⟩) 1 1) ([(⟨5, (⟨#[]⟩ : ByteArray), 0, ([] : List S36)⟩ : S36)] : List S36), Blk b34 [.int .i64 y29.1.f0, .int .i64 y29.1.f1, .slice A31 y29.1.f2.length c32] 24, Row k24 24 (.slice A31 y29.1.f2.length c32) y29.1.f2, Blk b28 [.int .i64 y23.1.f0, .int .i64 y23.1.f1, .slice A25 y23.1.f2.length c26] 24]) [4, 5, 6, 7, 8] 9 rfl rfl rfl) ?_
              refine TK.split (p := y403 = true) h (fun hg405 h => ?_) (fun hg405 h => ?_)
              · have hk406 : y403 = true := hg405
                refine TA.take 30 rfl (by kernel_rfl) rfl (PQ.then_ PQ.body) (Wt.yes rfl rfl rfl hk406) (Val.move rfl) (fun W hO => (hb349 _ _ (hb364 _ _ (hb383 _ _ (hb400 _ _ hO)))).selT (Ls := [Row k24 24 (.slice A3 y1.f2.length c4) y1.f2, Row k36 36 (.slice (some ⟨b14, 0, none⟩) 1 1) ([(⟨5, (⟨#[]⟩ : ByteArray), 0, ([] : List S36)⟩ : S36)] : List S36), Blk b34 [.int .i64 y29.1.f0, .int .i64 y29.1.f1, .slice A31 y29.1.f2.length c32] 24, Row k24 24 (.slice A31 y29.1.f2.length c32) y29.1.f2, Blk b28 [.int .i64 y23.1.f0, .int .i64 y23.1.f1, .slice A25 y23.1.f2.length c26] 24]) [4, 5, 6, 7, 8] 9 rfl rfl rfl) ?_
                refine TA.take 31 rfl (by kernel_rfl) rfl (PQ.then_ PQ.body) (Wt.yes rfl rfl rfl hk406) (Val.cmp rfl rfl run_eql) (fun W hO => (hb349 _ _ (hb364 _ _ (hb383 _ _ (hb400 _ _ hO)))).selT (Ls := [Row k24 24 (.slice A3 y1.f2.length c4) y1.f2, Row k36 36 (.slice (some ⟨b14, 0, none⟩) 1 1) ([(⟨5, (⟨#[]⟩ : ByteArray), 0, ([] : List S36)⟩ : S36)] : List S36), Blk b34 [.int .i64 y29.1.f0, .int .i64 y29.1.f1, .slice A31 y29.1.f2.length c32] 24, Row k24 24 (.slice A31 y29.1.f2.length c32) y29.1.f2, Blk b28 [.int .i64 y23.1.f0, .int .i64 y23.1.f1, .slice A25 y23.1.f2.length c26] 24]) [4, 5, 6, 7, 8] 9 rfl rfl rfl) ?_
                refine TA.take 32 rfl (by kernel_rfl) rfl (PQ.then_ PQ.body) rfl (Val.pickY rfl hk406 rfl) (fun W hO => (hb349 _ _ (hb364 _ _ (hb383 _ _ (hb400 _ _ hO)))).selT (Ls := [Row k24 24 (.slice A3 y1.f2.length c4) y1.f2, Row k36 36 (.slice (some ⟨b14, 0, none⟩) 1 1) ([(⟨5, (⟨#[]⟩ : ByteArray), 0, ([] : List S36)⟩ : S36)] : List S36), Blk b34 [.int .i64 y29.1.f0, .int .i64 y29.1.f1, .slice A31 y29.1.f2.length c32] 24, Row k24 24 (.slice A31 y29.1.f2.length c32) y29.1.f2, Blk b28 [.int .i64 y23.1.f0, .int .i64 y23.1.f1, .slice A25 y23.1.f2.length c26] 24]) [4, 5, 6, 7, 8] 9 rfl rfl rfl) ?_
                refine TA.take 33 rfl (by kernel_rfl) rfl (PQ.then_ PQ.body) rfl (Val.move rfl) (fun W hO => (hb349 _ _ (hb364 _ _ (hb383 _ _ (hb400 _ _ hO)))).selT (Ls := [Row k24 24 (.slice A3 y1.f2.length c4) y1.f2, Row k36 36 (.slice (some ⟨b14, 0, none⟩) 1 1) ([(⟨5, (⟨#[]⟩ : ByteArray), 0, ([] : List S36)⟩ : S36)] : List S36), Blk b34 [.int .i64 y29.1.f0, .int .i64 y29.1.f1, .slice A31 y29.1.f2.length c32] 24, Row k24 24 (.slice A31 y29.1.f2.length c32) y29.1.f2, Blk b28 [.int .i64 y23.1.f0, .int .i64 y23.1.f1, .slice A25 y23.1.f2.length c26] 24]) [4, 5, 6, 7, 8] 9 rfl rfl rfl) ?_
                refine TK.split (p := y29.2 = 1) h (fun hg407 h => ?_) (fun hg407 h => ?_)
                · have hk408 : decide (y29.2 = 1) = true := decide_eq_true hg407
                  refine TA.take 34 rfl (by kernel_rfl) rfl (PQ.then_ PQ.body) (Wt.yes rfl rfl rfl hk408) (Val.loadsB 4 (cs := [.int .i64 y23.1.f0, .int .i64 y23.1.f1, .slice A25 y23.1.f2.length c26]) agg24 fsz24 rfl rfl rfl rfl) (fun W hO => (hb349 _ _ (hb364 _ _ (hb383 _ _ (hb400 _ _ hO)))).selT (Ls := [Row k24 24 (.slice A3 y1.f2.length c4) y1.f2, Row k36 36 (.slice (some ⟨b14, 0, none⟩) 1 1) ([(⟨5, (⟨#[]⟩ : ByteArray), 0, ([] : List S36)⟩ : S36)] : List S36), Blk b34 [.int .i64 y29.1.f0, .int .i64 y29.1.f1, .slice A31 y29.1.f2.length c32] 24, Row k24 24 (.slice A31 y29.1.f2.length c32) y29.1.f2, Blk b28 [.int .i64 y23.1.f0, .int .i64 y23.1.f1, .slice A25 y23.1.f2.length c26] 24]) [4, 5, 6, 7, 8] 9 rfl rfl rfl) ?_
                  obtain ⟨y409, hy410, h⟩ := bind_no h
                  refine TA.eff 35 rfl (by kernel_rfl) rfl (TL.callV (Lin := []) (args := [.agg #[.int .i64 y23.1.f0, .int .i64 y23.1.f1, .slice A25 y23.1.f2.length c26]]) (Wt.yes rfl rfl rfl hk408) rfl rfl hbd20 rfl rfl (types_Scalar.calls (a0 := y23.1) (rd339.up (Gd.le.trans (Gd.le.trans (Gd.le.trans e347 e362) e381) e398)) le340 hy410) rfl ?_)
                  rintro _ _ _ _ ⟨rfl, rfl, rfl⟩
                  refine TA.next (fun W hO => (hb349 _ _ (hb364 _ _ (hb383 _ _ (hb400 _ _ hO)))).selT (Ls := [Row k24 24 (.slice A3 y1.f2.length c4) y1.f2, Row k36 36 (.slice (some ⟨b14, 0, none⟩) 1 1) ([(⟨5, (⟨#[]⟩ : ByteArray), 0, ([] : List S36)⟩ : S36)] : List S36), Blk b34 [.int .i64 y29.1.f0, .int .i64 y29.1.f1, .slice A31 y29.1.f2.length c32] 24, Row k24 24 (.slice A31 y29.1.f2.length c32) y29.1.f2, Blk b28 [.int .i64 y23.1.f0, .int .i64 y23.1.f1, .slice A25 y23.1.f2.length c26] 24]) [4, 5, 6, 7, 8] 9 rfl rfl rfl) ?_
                  refine TA.take 36 rfl (by kernel_rfl) rfl (PQ.then_ PQ.body) rfl (Val.pickY rfl hk408 rfl) (fun W hO => (hb349 _ _ (hb364 _ _ (hb383 _ _ (hb400 _ _ hO)))).selT (Ls := [Row k24 24 (.slice A3 y1.f2.length c4) y1.f2, Row k36 36 (.slice (some ⟨b14, 0, none⟩) 1 1) ([(⟨5, (⟨#[]⟩ : ByteArray), 0, ([] : List S36)⟩ : S36)] : List S36), Blk b34 [.int .i64 y29.1.f0, .int .i64 y29.1.f1, .slice A31 y29.1.f2.length c32] 24, Row k24 24 (.slice A31 y29.1.f2.length c32) y29.1.f2, Blk b28 [.int .i64 y23.1.f0, .int .i64 y23.1.f1, .slice A25 y23.1.f2.length c26] 24]) [4, 5, 6, 7, 8] 9 rfl rfl rfl) ?_
                  refine TA.take 37 rfl (by kernel_rfl) rfl (PQ.then_ PQ.body) rfl (Val.move rfl) (fun W hO => (hb349 _ _ (hb364 _ _ (hb383 _ _ (hb400 _ _ hO)))).selT (Ls := [Row k24 24 (.slice A3 y1.f2.length c4) y1.f2, Row k36 36 (.slice (some ⟨b14, 0, none⟩) 1 1) ([(⟨5, (⟨#[]⟩ : ByteArray), 0, ([] : List S36)⟩ : S36)] : List S36), Blk b34 [.int .i64 y29.1.f0, .int .i64 y29.1.f1, .slice A31 y29.1.f2.length c32] 24, Row k24 24 (.slice A31 y29.1.f2.length c32) y29.1.f2, Blk b28 [.int .i64 y23.1.f0, .int .i64 y23.1.f1, .slice A25 y23.1.f2.length c26] 24]) [4, 5, 6, 7, 8] 9 rfl rfl rfl) ?_
                  refine TK.split (p := y409 = true) h (fun hg411 h => ?_) (fun hg411 h => ?_)
                  · have hk412 : y409 = true := hg411
                    obtain ⟨y413, hy414, h⟩ := bind_no h
                    refine TA.eff 38 rfl (by kernel_rfl) rfl (TL.callV (Lin := []) (args := []) (Wt.yes rfl rfl rfl hk412) rfl rfl hbd27 rfl rfl (swagelaw11_some.calls hy414) rfl ?_)
                    rintro _ _ _ _ ⟨rfl, A415, c416, rfl, rfl⟩
                    refine TA.next (fun W hO => (hb349 _ _ (hb364 _ _ (hb383 _ _ (hb400 _ _ hO)))).selT (Ls := [Row k24 24 (.slice A3 y1.f2.length c4) y1.f2, Row k36 36 (.slice (some ⟨b14, 0, none⟩) 1 1) ([(⟨5, (⟨#[]⟩ : ByteArray), 0, ([] : List S36)⟩ : S36)] : List S36), Blk b34 [.int .i64 y29.1.f0, .int .i64 y29.1.f1, .slice A31 y29.1.f2.length c32] 24, Row k24 24 (.slice A31 y29.1.f2.length c32) y29.1.f2, Blk b28 [.int .i64 y23.1.f0, .int .i64 y23.1.f1, .slice A25 y23.1.f2.length c26] 24]) [5, 6, 7, 8, 9] 10 rfl rfl rfl) ?_
                    refine TK.share (fun G418 e419 hs420 hb421 => ?_)
                    have rd422 : Rd G418 k24 A415 y413.f2 := Rd.row hs420
                    have le423 : y413.f2.length ≤ c416 := Row.le hs420
                    obtain ⟨y424, hy425, h⟩ := bind_no h
                    refine TA.eff 39 rfl (by kernel_rfl) rfl (TL.callV (Lin := []) (args := [.agg #[.int .i64 y413.f0, .int .i64 y413.f1, .slice A415 y413.f2.length c416]]) (Wt.yes rfl rfl rfl hk412) rfl rfl hbd20 rfl rfl (types_Scalar.calls (a0 := y413) rd422 le423 hy425) rfl ?_)
                    rintro _ _ _ _ ⟨rfl, rfl, rfl⟩
                    refine TA.next (fun W hO => (hb349 _ _ (hb364 _ _ (hb383 _ _ (hb400 _ _ (hb421 _ _ hO))))).selT (Ls := [Row k24 24 (.slice A3 y1.f2.length c4) y1.f2, Row k36 36 (.slice (some ⟨b14, 0, none⟩) 1 1) ([(⟨5, (⟨#[]⟩ : ByteArray), 0, ([] : List S36)⟩ : S36)] : List S36), Blk b34 [.int .i64 y29.1.f0, .int .i64 y29.1.f1, .slice A31 y29.1.f2.length c32] 24, Row k24 24 (.slice A31 y29.1.f2.length c32) y29.1.f2, Blk b28 [.int .i64 y23.1.f0, .int .i64 y23.1.f1, .slice A25 y23.1.f2.length c26] 24]) [5, 6, 7, 8, 9] 10 rfl rfl rfl) ?_
                    refine TA.take 40 rfl (by kernel_rfl) rfl (PQ.then_ PQ.body) (Wt.yes rfl rfl rfl hk412) (Val.not_ rfl) (fun W hO => (hb349 _ _ (hb364 _ _ (hb383 _ _ (hb400 _ _ (hb421 _ _ hO))))).selT (Ls := [Row k24 24 (.slice A3 y1.f2.length c4) y1.f2, Row k36 36 (.slice (some ⟨b14, 0, none⟩) 1 1) ([(⟨5, (⟨#[]⟩ : ByteArray), 0, ([] : List S36)⟩ : S36)] : List S36), Blk b34 [.int .i64 y29.1.f0, .int .i64 y29.1.f1, .slice A31 y29.1.f2.length c32] 24, Row k24 24 (.slice A31 y29.1.f2.length c32) y29.1.f2, Blk b28 [.int .i64 y23.1.f0, .int .i64 y23.1.f1, .slice A25 y23.1.f2.length c26] 24]) [5, 6, 7, 8, 9] 10 rfl rfl rfl) ?_
                    refine TA.take 41 rfl (by kernel_rfl) rfl (PQ.then_ PQ.body) rfl (Val.pickY rfl hk412 rfl) (fun W hO => (hb349 _ _ (hb364 _ _ (hb383 _ _ (hb400 _ _ (hb421 _ _ hO))))).selT (Ls := [Row k24 24 (.slice A3 y1.f2.length c4) y1.f2, Row k36 36 (.slice (some ⟨b14, 0, none⟩) 1 1) ([(⟨5, (⟨#[]⟩ : ByteArray), 0, ([] : List S36)⟩ : S36)] : List S36), Blk b34 [.int .i64 y29.1.f0, .int .i64 y29.1.f1, .slice A31 y29.1.f2.length c32] 24, Row k24 24 (.slice A31 y29.1.f2.length c32) y29.1.f2, Blk b28 [.int .i64 y23.1.f0, .int .i64 y23.1.f1, .slice A25 y23.1.f2.length c26] 24]) [5, 6, 7, 8, 9] 10 rfl rfl rfl) ?_
                    refine TA.take 42 rfl (by kernel_rfl) rfl (PQ.then_ PQ.body) rfl (Val.assign rfl) (fun W hO => (hb349 _ _ (hb364 _ _ (hb383 _ _ (hb400 _ _ (hb421 _ _ hO))))).selT (Ls := [Row k24 24 (.slice A3 y1.f2.length c4) y1.f2, Row k36 36 (.slice (some ⟨b14, 0, none⟩) 1 1) ([(⟨5, (⟨#[]⟩ : ByteArray), 0, ([] : List S36)⟩ : S36)] : List S36), Blk b34 [.int .i64 y29.1.f0, .int .i64 y29.1.f1, .slice A31 y29.1.f2.length c32] 24, Row k24 24 (.slice A31 y29.1.f2.length c32) y29.1.f2, Blk b28 [.int .i64 y23.1.f0, .int .i64 y23.1.f1, .slice A25 y23.1.f2.length c26] 24]) [5, 6, 7, 8, 9] 10 rfl rfl rfl) ?_
                    refine TA.done (by kernel_rfl) ?_
                    refine TQ.then_ ?_
                    refine TC.ret ?_
                    refine TQ.back hb421 ?_
                    refine TQ.back hb400 ?_
                    refine TQ.back hb383 ?_
                    refine TQ.back hb364 ?_
                    refine TQ.back hb349 ?_
                    refine TQ.back hb338 ?_
                    obtain rfl := Option.some.inj h
                    exact TQ.fin (.inl rfl) rfl Tryd.results7 (.tmp rfl .nil) rfl (FRel.mk (Ls := []) [] 11 (Gd.le.refl _) rfl rfl rfl ⟨rfl, rfl, rfl⟩)
                  · have hk426 : y409 = false := (by simpa using hg411)
                    refine TA.not 38 rfl (by kernel_rfl) rfl (PQ.then_ PQ.body) (Wt.no rfl rfl rfl hk426) (fun W hO => (hb349 _ _ (hb364 _ _ (hb383 _ _ (hb400 _ _ hO)))).selT (Ls := [Row k24 24 (.slice A3 y1.f2.length c4) y1.f2, Row k36 36 (.slice (some ⟨b14, 0, none⟩) 1 1) ([(⟨5, (⟨#[]⟩ : ByteArray), 0, ([] : List S36)⟩ : S36)] : List S36), Blk b34 [.int .i64 y29.1.f0, .int .i64 y29.1.f1, .slice A31 y29.1.f2.length c32] 24, Row k24 24 (.slice A31 y29.1.f2.length c32) y29.1.f2, Blk b28 [.int .i64 y23.1.f0, .int .i64 y23.1.f1, .slice A25 y23.1.f2.length c26] 24]) [4, 5, 6, 7, 8] 9 rfl rfl rfl) ?_
                    refine TA.not 39 rfl (by kernel_rfl) rfl (PQ.then_ PQ.body) (Wt.no rfl rfl rfl hk426) (fun W hO => (hb349 _ _ (hb364 _ _ (hb383 _ _ (hb400 _ _ hO)))).selT (Ls := [Row k24 24 (.slice A3 y1.f2.length c4) y1.f2, Row k36 36 (.slice (some ⟨b14, 0, none⟩) 1 1) ([(⟨5, (⟨#[]⟩ : ByteArray), 0, ([] : List S36)⟩ : S36)] : List S36), Blk b34 [.int .i64 y29.1.f0, .int .i64 y29.1.f1, .slice A31 y29.1.f2.length c32] 24, Row k24 24 (.slice A31 y29.1.f2.length c32) y29.1.f2, Blk b28 [.int .i64 y23.1.f0, .int .i64 y23.1.f1, .slice A25 y23.1.f2.length c26] 24]) [4, 5, 6, 7, 8] 9 rfl rfl rfl) ?_
                    refine TA.not 40 rfl (by kernel_rfl) rfl (PQ.then_ PQ.body) (Wt.no rfl rfl rfl hk426) (fun W hO => (hb349 _ _ (hb364 _ _ (hb383 _ _ (hb400 _ _ hO)))).selT (Ls := [Row k24 24 (.slice A3 y1.f2.length c4) y1.f2, Row k36 36 (.slice (some ⟨b14, 0, none⟩) 1 1) ([(⟨5, (⟨#[]⟩ : ByteArray), 0, ([] : List S36)⟩ : S36)] : List S36), Blk b34 [.int .i64 y29.1.f0, .int .i64 y29.1.f1, .slice A31 y29.1.f2.length c32] 24, Row k24 24 (.slice A31 y29.1.f2.length c32) y29.1.f2, Blk b28 [.int .i64 y23.1.f0, .int .i64 y23.1.f1, .slice A25 y23.1.f2.length c26] 24]) [4, 5, 6, 7, 8] 9 rfl rfl rfl) ?_
                    refine TA.take 41 rfl (by kernel_rfl) rfl (PQ.then_ PQ.body) rfl (Val.pickN rfl hk426 rfl) (fun W hO => (hb349 _ _ (hb364 _ _ (hb383 _ _ (hb400 _ _ hO)))).selT (Ls := [Row k24 24 (.slice A3 y1.f2.length c4) y1.f2, Row k36 36 (.slice (some ⟨b14, 0, none⟩) 1 1) ([(⟨5, (⟨#[]⟩ : ByteArray), 0, ([] : List S36)⟩ : S36)] : List S36), Blk b34 [.int .i64 y29.1.f0, .int .i64 y29.1.f1, .slice A31 y29.1.f2.length c32] 24, Row k24 24 (.slice A31 y29.1.f2.length c32) y29.1.f2, Blk b28 [.int .i64 y23.1.f0, .int .i64 y23.1.f1, .slice A25 y23.1.f2.length c26] 24]) [4, 5, 6, 7, 8] 9 rfl rfl rfl) ?_
                    refine TA.take 42 rfl (by kernel_rfl) rfl (PQ.then_ PQ.body) rfl (Val.assign rfl) (fun W hO => (hb349 _ _ (hb364 _ _ (hb383 _ _ (hb400 _ _ hO)))).selT (Ls := [Row k24 24 (.slice A3 y1.f2.length c4) y1.f2, Row k36 36 (.slice (some ⟨b14, 0, none⟩) 1 1) ([(⟨5, (⟨#[]⟩ : ByteArray), 0, ([] : List S36)⟩ : S36)] : List S36), Blk b34 [.int .i64 y29.1.f0, .int .i64 y29.1.f1, .slice A31 y29.1.f2.length c32] 24, Row k24 24 (.slice A31 y29.1.f2.length c32) y29.1.f2, Blk b28 [.int .i64 y23.1.f0, .int .i64 y23.1.f1, .slice A25 y23.1.f2.length c26] 24]) [4, 5, 6, 7, 8] 9 rfl rfl rfl) ?_
                    refine TA.done (by kernel_rfl) ?_
                    refine TQ.then_ ?_
                    refine TC.ret ?_
                    refine TQ.back hb400 ?_
                    refine TQ.back hb383 ?_
                    refine TQ.back hb364 ?_
                    refine TQ.back hb349 ?_
                    refine TQ.back hb338 ?_
                    obtain rfl := Option.some.inj h
                    exact TQ.fin (.inl rfl) rfl Tryd.results7 (.tmp rfl .nil) rfl (FRel.mk (Ls := []) [] 10 (Gd.le.refl _) rfl rfl rfl ⟨rfl, rfl, rfl⟩)
                · have hk427 : decide (y29.2 = 1) = false := decide_eq_false hg407
                  refine TA.not 34 rfl (by kernel_rfl) rfl (PQ.then_ PQ.body) (Wt.no rfl rfl rfl hk427) (fun W hO => (hb349 _ _ (hb364 _ _ (hb383 _ _ (hb400 _ _ hO)))).selT (Ls := [Row k24 24 (.slice A3 y1.f2.length c4) y1.f2, Row k36 36 (.slice (some ⟨b14, 0, none⟩) 1 1) ([(⟨5, (⟨#[]⟩ : ByteArray), 0, ([] : List S36)⟩ : S36)] : List S36), Blk b34 [.int .i64 y29.1.f0, .int .i64 y29.1.f1, .slice A31 y29.1.f2.length c32] 24, Row k24 24 (.slice A31 y29.1.f2.length c32) y29.1.f2, Blk b28 [.int .i64 y23.1.f0, .int .i64 y23.1.f1, .slice A25 y23.1.f2.length c26] 24]) [4, 5, 6, 7, 8] 9 rfl rfl rfl) ?_
                  refine TA.not 35 rfl (by kernel_rfl) rfl (PQ.then_ PQ.body) (Wt.no rfl rfl rfl hk427) (fun W hO => (hb349 _ _ (hb364 _ _ (hb383 _ _ (hb400 _ _ hO)))).selT (Ls := [Row k24 24 (.slice A3 y1.f2.length c4) y1.f2, Row k36 36 (.slice (some ⟨b14, 0, none⟩) 1 1) ([(⟨5, (⟨#[]⟩ : ByteArray), 0, ([] : List S36)⟩ : S36)] : List S36), Blk b34 [.int .i64 y29.1.f0, .int .i64 y29.1.f1, .slice A31 y29.1.f2.length c32] 24, Row k24 24 (.slice A31 y29.1.f2.length c32) y29.1.f2, Blk b28 [.int .i64 y23.1.f0, .int .i64 y23.1.f1, .slice A25 y23.1.f2.length c26] 24]) [4, 5, 6, 7, 8] 9 rfl rfl rfl) ?_
                  refine TA.take 36 rfl (by kernel_rfl) rfl (PQ.then_ PQ.body) rfl (Val.pickN rfl hk427 rfl) (fun W hO => (hb349 _ _ (hb364 _ _ (hb383 _ _ (hb400 _ _ hO)))).selT (Ls := [Row k24 24 (.slice A3 y1.f2.length c4) y1.f2, Row k36 36 (.slice (some ⟨b14, 0, none⟩) 1 1) ([(⟨5, (⟨#[]⟩ : ByteArray), 0, ([] : List S36)⟩ : S36)] : List S36), Blk b34 [.int .i64 y29.1.f0, .int .i64 y29.1.f1, .slice A31 y29.1.f2.length c32] 24, Row k24 24 (.slice A31 y29.1.f2.length c32) y29.1.f2, Blk b28 [.int .i64 y23.1.f0, .int .i64 y23.1.f1, .slice A25 y23.1.f2.length c26] 24]) [4, 5, 6, 7, 8] 9 rfl rfl rfl) ?_
                  refine TA.take 37 rfl (by kernel_rfl) rfl (PQ.then_ PQ.body) rfl (Val.move rfl) (fun W hO => (hb349 _ _ (hb364 _ _ (hb383 _ _ (hb400 _ _ hO)))).selT (Ls := [Row k24 24 (.slice A3 y1.f2.length c4) y1.f2, Row k36 36 (.slice (some ⟨b14, 0, none⟩) 1 1) ([(⟨5, (⟨#[]⟩ : ByteArray), 0, ([] : List S36)⟩ : S36)] : List S36), Blk b34 [.int .i64 y29.1.f0, .int .i64 y29.1.f1, .slice A31 y29.1.f2.length c32] 24, Row k24 24 (.slice A31 y29.1.f2.length c32) y29.1.f2, Blk b28 [.int .i64 y23.1.f0, .int .i64 y23.1.f1, .slice A25 y23.1.f2.length c26] 24]) [4, 5, 6, 7, 8] 9 rfl rfl rfl) ?_
                  refine TA.not 38 rfl (by kernel_rfl) rfl (PQ.then_ PQ.body) (Wt.no rfl rfl rfl rfl) (fun W hO => (hb349 _ _ (hb364 _ _ (hb383 _ _ (hb400 _ _ hO)))).selT (Ls := [Row k24 24 (.slice A3 y1.f2.length c4) y1.f2, Row k36 36 (.slice (some ⟨b14, 0, none⟩) 1 1) ([(⟨5, (⟨#[]⟩ : ByteArray), 0, ([] : List S36)⟩ : S36)] : List S36), Blk b34 [.int .i64 y29.1.f0, .int .i64 y29.1.f1, .slice A31 y29.1.f2.length c32] 24, Row k24 24 (.slice A31 y29.1.f2.length c32) y29.1.f2, Blk b28 [.int .i64 y23.1.f0, .int .i64 y23.1.f1, .slice A25 y23.1.f2.length c26] 24]) [4, 5, 6, 7, 8] 9 rfl rfl rfl) ?_
                  refine TA.not 39 rfl (by kernel_rfl) rfl (PQ.then_ PQ.body) (Wt.no rfl rfl rfl rfl) (fun W hO => (hb349 _ _ (hb364 _ _ (hb383 _ _ (hb400 _ _ hO)))).selT (Ls := [Row k24 24 (.slice A3 y1.f2.length c4) y1.f2, Row k36 36 (.slice (some ⟨b14, 0, none⟩) 1 1) ([(⟨5, (⟨#[]⟩ : ByteArray), 0, ([] : List S36)⟩ : S36)] : List S36), Blk b34 [.int .i64 y29.1.f0, .int .i64 y29.1.f1, .slice A31 y29.1.f2.length c32] 24, Row k24 24 (.slice A31 y29.1.f2.length c32) y29.1.f2, Blk b28 [.int .i64 y23.1.f0, .int .i64 y23.1.f1, .slice A25 y23.1.f2.length c26] 24]) [4, 5, 6, 7, 8] 9 rfl rfl rfl) ?_
                  refine TA.not 40 rfl (by kernel_rfl) rfl (PQ.then_ PQ.body) (Wt.no rfl rfl rfl rfl) (fun W hO => (hb349 _ _ (hb364 _ _ (hb383 _ _ (hb400 _ _ hO)))).selT (Ls := [Row k24 24 (.slice A3 y1.f2.length c4) y1.f2, Row k36 36 (.slice (some ⟨b14, 0, none⟩) 1 1) ([(⟨5, (⟨#[]⟩ : ByteArray), 0, ([] : List S36)⟩ : S36)] : List S36), Blk b34 [.int .i64 y29.1.f0, .int .i64 y29.1.f1, .slice A31 y29.1.f2.length c32] 24, Row k24 24 (.slice A31 y29.1.f2.length c32) y29.1.f2, Blk b28 [.int .i64 y23.1.f0, .int .i64 y23.1.f1, .slice A25 y23.1.f2.length c26] 24]) [4, 5, 6, 7, 8] 9 rfl rfl rfl) ?_
                  refine TA.take 41 rfl (by kernel_rfl) rfl (PQ.then_ PQ.body) rfl (Val.pickN rfl rfl rfl) (fun W hO => (hb349 _ _ (hb364 _ _ (hb383 _ _ (hb400 _ _ hO)))).selT (Ls := [Row k24 24 (.slice A3 y1.f2.length c4) y1.f2, Row k36 36 (.slice (some ⟨b14, 0, none⟩) 1 1) ([(⟨5, (⟨#[]⟩ : ByteArray), 0, ([] : List S36)⟩ : S36)] : List S36), Blk b34 [.int .i64 y29.1.f0, .int .i64 y29.1.f1, .slice A31 y29.1.f2.length c32] 24, Row k24 24 (.slice A31 y29.1.f2.length c32) y29.1.f2, Blk b28 [.int .i64 y23.1.f0, .int .i64 y23.1.f1, .slice A25 y23.1.f2.length c26] 24]) [4, 5, 6, 7, 8] 9 rfl rfl rfl) ?_
                  refine TA.take 42 rfl (by kernel_rfl) rfl (PQ.then_ PQ.body) rfl (Val.assign rfl) (fun W hO => (hb349 _ _ (hb364 _ _ (hb383 _ _ (hb400 _ _ hO)))).selT (Ls := [Row k24 24 (.slice A3 y1.f2.length c4) y1.f2, Row k36 36 (.slice (some ⟨b14, 0, none⟩) 1 1) ([(⟨5, (⟨#[]⟩ : ByteArray), 0, ([] : List S36)⟩ : S36)] : List S36), Blk b34 [.int .i64 y29.1.f0, .int .i64 y29.1.f1, .slice A31 y29.1.f2.length c32] 24, Row k24 24 (.slice A31 y29.1.f2.length c32) y29.1.f2, Blk b28 [.int .i64 y23.1.f0, .int .i64 y23.1.f1, .slice A25 y23.1.f2.length c26] 24]) [4, 5, 6, 7, 8] 9 rfl rfl rfl) ?_
                  refine TA.done (by kernel_rfl) ?_
                  refine TQ.then_ ?_
                  refine TC.ret ?_
                  refine TQ.back hb400 ?_
                  refine TQ.back hb383 ?_
                  refine TQ.back hb364 ?_
                  refine TQ.back hb349 ?_
                  refine TQ.back hb338 ?_
                  obtain rfl := Option.some.inj h
                  exact TQ.fin (.inl rfl) rfl Tryd.results7 (.tmp rfl .nil) rfl (FRel.mk (Ls := []) [] 10 (Gd.le.refl _) rfl rfl rfl ⟨rfl, rfl, rfl⟩)
              · have hk428 : y403 = false := (by simpa using hg405)
                refine TA.not 30 rfl (by kernel_rfl) rfl (PQ.then_ PQ.body) (Wt.no rfl rfl rfl hk428) (fun W hO => (hb349 _ _ (hb364 _ _ (hb383 _ _ (hb400 _ _ hO)))).selT (Ls := [Row k24 24 (.slice A3 y1.f2.length c4) y1.f2, Row k36 36 (.slice (some ⟨b14, 0, none⟩) 1 1) ([(⟨5, (⟨#[]⟩ : ByteArray), 0, ([] : List S36)⟩ : S36)] : List S36), Blk b34 [.int .i64 y29.1.f0, .int .i64 y29.1.f1, .slice A31 y29.1.f2.length c32] 24, Row k24 24 (.slice A31 y29.1.f2.length c32) y29.1.f2, Blk b28 [.int .i64 y23.1.f0, .int .i64 y23.1.f1, .slice A25 y23.1.f2.length c26] 24]) [4, 5, 6, 7, 8] 9 rfl rfl rfl) ?_
                refine TA.not 31 rfl (by kernel_rfl) rfl (PQ.then_ PQ.body) (Wt.no rfl rfl rfl hk428) (fun W hO => (hb349 _ _ (hb364 _ _ (hb383 _ _ (hb400 _ _ hO)))).selT (Ls := [Row k24 24 (.slice A3 y1.f2.length c4) y1.f2, Row k36 36 (.slice (some ⟨b14, 0, none⟩) 1 1) ([(⟨5, (⟨#[]⟩ : ByteArray), 0, ([] : List S36)⟩ : S36)] : List S36), Blk b34 [.int .i64 y29.1.f0, .int .i64 y29.1.f1, .slice A31 y29.1.f2.length c32] 24, Row k24 24 (.slice A31 y29.1.f2.length c32) y29.1.f2, Blk b28 [.int .i64 y23.1.f0, .int .i64 y23.1.f1, .slice A25 y23.1.f2.length c26] 24]) [4, 5, 6, 7, 8] 9 rfl rfl rfl) ?_
                refine TA.take 32 rfl (by kernel_rfl) rfl (PQ.then_ PQ.body) rfl (Val.pickN rfl hk428 rfl) (fun W hO => (hb349 _ _ (hb364 _ _ (hb383 _ _ (hb400 _ _ hO)))).selT (Ls := [Row k24 24 (.slice A3 y1.f2.length c4) y1.f2, Row k36 36 (.slice (some ⟨b14, 0, none⟩) 1 1) ([(⟨5, (⟨#[]⟩ : ByteArray), 0, ([] : List S36)⟩ : S36)] : List S36), Blk b34 [.int .i64 y29.1.f0, .int .i64 y29.1.f1, .slice A31 y29.1.f2.length c32] 24, Row k24 24 (.slice A31 y29.1.f2.length c32) y29.1.f2, Blk b28 [.int .i64 y23.1.f0, .int .i64 y23.1.f1, .slice A25 y23.1.f2.length c26] 24]) [4, 5, 6, 7, 8] 9 rfl rfl rfl) ?_
                refine TA.take 33 rfl (by kernel_rfl) rfl (PQ.then_ PQ.body) rfl (Val.move rfl) (fun W hO => (hb349 _ _ (hb364 _ _ (hb383 _ _ (hb400 _ _ hO)))).selT (Ls := [Row k24 24 (.slice A3 y1.f2.length c4) y1.f2, Row k36 36 (.slice (some ⟨b14, 0, none⟩) 1 1) ([(⟨5, (⟨#[]⟩ : ByteArray), 0, ([] : List S36)⟩ : S36)] : List S36), Blk b34 [.int .i64 y29.1.f0, .int .i64 y29.1.f1, .slice A31 y29.1.f2.length c32] 24, Row k24 24 (.slice A31 y29.1.f2.length c32) y29.1.f2, Blk b28 [.int .i64 y23.1.f0, .int .i64 y23.1.f1, .slice A25 y23.1.f2.length c26] 24]) [4, 5, 6, 7, 8] 9 rfl rfl rfl) ?_
                refine TA.not 34 rfl (by kernel_rfl) rfl (PQ.then_ PQ.body) (Wt.no rfl rfl rfl rfl) (fun W hO => (hb349 _ _ (hb364 _ _ (hb383 _ _ (hb400 _ _ hO)))).selT (Ls := [Row k24 24 (.slice A3 y1.f2.length c4) y1.f2, Row k36 36 (.slice (some ⟨b14, 0, none⟩) 1 1) ([(⟨5, (⟨#[]⟩ : ByteArray), 0, ([] : List S36)⟩ : S36)] : List S36), Blk b34 [.int .i64 y29.1.f0, .int .i64 y29.1.f1, .slice A31 y29.1.f2.length c32] 24, Row k24 24 (.slice A31 y29.1.f2.length c32) y29.1.f2, Blk b28 [.int .i64 y23.1.f0, .int .i64 y23.1.f1, .slice A25 y23.1.f2.length c26] 24]) [4, 5, 6, 7, 8] 9 rfl rfl rfl) ?_
                refine TA.not 35 rfl (by kernel_rfl) rfl (PQ.then_ PQ.body) (Wt.no rfl rfl rfl rfl) (fun W hO => (hb349 _ _ (hb364 _ _ (hb383 _ _ (hb400 _ _ hO)))).selT (Ls := [Row k24 24 (.slice A3 y1.f2.length c4) y1.f2, Row k36 36 (.slice (some ⟨b14, 0, none⟩) 1 1) ([(⟨5, (⟨#[]⟩ : ByteArray), 0, ([] : List S36)⟩ : S36)] : List S36), Blk b34 [.int .i64 y29.1.f0, .int .i64 y29.1.f1, .slice A31 y29.1.f2.length c32] 24, Row k24 24 (.slice A31 y29.1.f2.length c32) y29.1.f2, Blk b28 [.int .i64 y23.1.f0, .int .i64 y23.1.f1, .slice A25 y23.1.f2.length c26] 24]) [4, 5, 6, 7, 8] 9 rfl rfl rfl) ?_
                refine TA.take 36 rfl (by kernel_rfl) rfl (PQ.then_ PQ.body) rfl (Val.pickN rfl rfl rfl) (fun W hO => (hb349 _ _ (hb364 _ _ (hb383 _ _ (hb400 _ _ hO)))).selT (Ls := [Row k24 24 (.slice A3 y1.f2.length c4) y1.f2, Row k36 36 (.slice (some ⟨b14, 0, none⟩) 1 1) ([(⟨5, (⟨#[]⟩ : ByteArray), 0, ([] : List S36)⟩ : S36)] : List S36), Blk b34 [.int .i64 y29.1.f0, .int .i64 y29.1.f1, .slice A31 y29.1.f2.length c32] 24, Row k24 24 (.slice A31 y29.1.f2.length c32) y29.1.f2, Blk b28 [.int .i64 y23.1.f0, .int .i64 y23.1.f1, .slice A25 y23.1.f2.length c26] 24]) [4, 5, 6, 7, 8] 9 rfl rfl rfl) ?_
                refine TA.take 37 rfl (by kernel_rfl) rfl (PQ.then_ PQ.body) rfl (Val.move rfl) (fun W hO => (hb349 _ _ (hb364 _ _ (hb383 _ _ (hb400 _ _ hO)))).selT (Ls := [Row k24 24 (.slice A3 y1.f2.length c4) y1.f2, Row k36 36 (.slice (some ⟨b14, 0, none⟩) 1 1) ([(⟨5, (⟨#[]⟩ : ByteArray), 0, ([] : List S36)⟩ : S36)] : List S36), Blk b34 [.int .i64 y29.1.f0, .int .i64 y29.1.f1, .slice A31 y29.1.f2.length c32] 24, Row k24 24 (.slice A31 y29.1.f2.length c32) y29.1.f2, Blk b28 [.int .i64 y23.1.f0, .int .i64 y23.1.f1, .slice A25 y23.1.f2.length c26] 24]) [4, 5, 6, 7, 8] 9 rfl rfl rfl) ?_
                refine TA.not 38 rfl (by kernel_rfl) rfl (PQ.then_ PQ.body) (Wt.no rfl rfl rfl rfl) (fun W hO => (hb349 _ _ (hb364 _ _ (hb383 _ _ (hb400 _ _ hO)))).selT (Ls := [Row k24 24 (.slice A3 y1.f2.length c4) y1.f2, Row k36 36 (.slice (some ⟨b14, 0, none⟩) 1 1) ([(⟨5, (⟨#[]⟩ : ByteArray), 0, ([] : List S36)⟩ : S36)] : List S36), Blk b34 [.int .i64 y29.1.f0, .int .i64 y29.1.f1, .slice A31 y29.1.f2.length c32] 24, Row k24 24 (.slice A31 y29.1.f2.length c32) y29.1.f2, Blk b28 [.int .i64 y23.1.f0, .int .i64 y23.1.f1, .slice A25 y23.1.f2.length c26] 24]) [4, 5, 6, 7, 8] 9 rfl rfl rfl) ?_
                refine TA.not 39 rfl (by kernel_rfl) rfl (PQ.then_ PQ.body) (Wt.no rfl rfl rfl rfl) (fun W hO => (hb349 _ _ (hb364 _ _ (hb383 _ _ (hb400 _ _ hO)))).selT (Ls := [Row k24 24 (.slice A3 y1.f2.length c4) y1.f2, Row k36 36 (.slice (some ⟨b14, 0, none⟩) 1 1) ([(⟨5, (⟨#[]⟩ : ByteArray), 0, ([] : List S36)⟩ : S36)] : List S36), Blk b34 [.int .i64 y29.1.f0, .int .i64 y29.1.f1, .slice A31 y29.1.f2.length c32] 24, Row k24 24 (.slice A31 y29.1.f2.length c32) y29.1.f2, Blk b28 [.int .i64 y23.1.f0, .int .i64 y23.1.f1, .slice A25 y23.1.f2.length c26] 24]) [4, 5, 6, 7, 8] 9 rfl rfl rfl) ?_
                refine TA.not 40 rfl (by kernel_rfl) rfl (PQ.then_ PQ.body) (Wt.no rfl rfl rfl rfl) (fun W hO => (hb349 _ _ (hb364 _ _ (hb383 _ _ (hb400 _ _ hO)))).selT (Ls := [Row k24 24 (.slice A3 y1.f2.length c4) y1.f2, Row k36 36 (.slice (some ⟨b14, 0, none⟩) 1 1) ([(⟨5, (⟨#[]⟩ : ByteArray), 0, ([] : List S36)⟩ : S36)] : List S36), Blk b34 [.int .i64 y29.1.f0, .int .i64 y29.1.f1, .slice A31 y29.1.f2.length c32] 24, Row k24 24 (.slice A31 y29.1.f2.length c32) y29.1.f2, Blk b28 [.int .i64 y23.1.f0, .int .i64 y23.1.f1, .slice A25 y23.1.f2.length c26] 24]) [4, 5, 6, 7, 8] 9 rfl rfl rfl) ?_
                refine TA.take 41 rfl (by kernel_rfl) rfl (PQ.then_ PQ.body) rfl (Val.pickN rfl rfl rfl) (fun W hO => (hb349 _ _ (hb364 _ _ (hb383 _ _ (hb400 _ _ hO)))).selT (Ls := [Row k24 24 (.slice A3 y1.f2.length c4) y1.f2, Row k36 36 (.slice (some ⟨b14, 0, none⟩) 1 1) ([(⟨5, (⟨#[]⟩ : ByteArray), 0, ([] : List S36)⟩ : S36)] : List S36), Blk b34 [.int .i64 y29.1.f0, .int .i64 y29.1.f1, .slice A31 y29.1.f2.length c32] 24, Row k24 24 (.slice A31 y29.1.f2.length c32) y29.1.f2, Blk b28 [.int .i64 y23.1.f0, .int .i64 y23.1.f1, .slice A25 y23.1.f2.length c26] 24]) [4, 5, 6, 7, 8] 9 rfl rfl rfl) ?_
                refine TA.take 42 rfl (by kernel_rfl) rfl (PQ.then_ PQ.body) rfl (Val.assign rfl) (fun W hO => (hb349 _ _ (hb364 _ _ (hb383 _ _ (hb400 _ _ hO)))).selT (Ls := [Row k24 24 (.slice A3 y1.f2.length c4) y1.f2, Row k36 36 (.slice (some ⟨b14, 0, none⟩) 1 1) ([(⟨5, (⟨#[]⟩ : ByteArray), 0, ([] : List S36)⟩ : S36)] : List S36), Blk b34 [.int .i64 y29.1.f0, .int .i64 y29.1.f1, .slice A31 y29.1.f2.length c32] 24, Row k24 24 (.slice A31 y29.1.f2.length c32) y29.1.f2, Blk b28 [.int .i64 y23.1.f0, .int .i64 y23.1.f1, .slice A25 y23.1.f2.length c26] 24]) [4, 5, 6, 7, 8] 9 rfl rfl rfl) ?_
                refine TA.done (by kernel_rfl) ?_
                refine TQ.then_ ?_
                refine TC.ret ?_
                refine TQ.back hb400 ?_
                refine TQ.back hb383 ?_
                refine TQ.back hb364 ?_
                refine TQ.back hb349 ?_
                refine TQ.back hb338 ?_
                obtain rfl := Option.some.inj h
                exact TQ.fin (.inl rfl) rfl Tryd.results7 (.tmp rfl .nil) rfl (FRel.mk (Ls := []) [] 10 (Gd.le.refl _) rfl rfl rfl ⟨rfl, rfl, rfl⟩)
            · have hk429 : decide (y23.2 = 0) = false := decide_eq_false hg390
              refine TA.not 24 rfl (by kernel_rfl) rfl (PQ.then_ PQ.body) (Wt.no rfl rfl rfl hk429) (fun W hO => (hb349 _ _ (hb364 _ _ (hb383 _ _ hO))).selT (Ls := [Row k24 24 (.slice A3 y1.f2.length c4) y1.f2, Row k36 36 (.slice (some ⟨b14, 0, none⟩) 1 1) ([(⟨5, (⟨#[]⟩ : ByteArray), 0, ([] : List S36)⟩ : S36)] : List S36), Blk b34 [.int .i64 y29.1.f0, .int .i64 y29.1.f1, .slice A31 y29.1.f2.length c32] 24, Row k24 24 (.slice A31 y29.1.f2.length c32) y29.1.f2, Blk b28 [.int .i64 y23.1.f0, .int .i64 y23.1.f1, .slice A25 y23.1.f2.length c26] 24]) [3, 4, 5, 6, 7] 8 rfl rfl rfl) ?_
              refine TA.not 25 rfl (by kernel_rfl) rfl (PQ.then_ PQ.body) (Wt.no rfl rfl rfl hk429) (fun W hO => (hb349 _ _ (hb364 _ _ (hb383 _ _ hO))).selT (Ls := [Row k24 24 (.slice A3 y1.f2.length c4) y1.f2, Row k36 36 (.slice (some ⟨b14, 0, none⟩) 1 1) ([(⟨5, (⟨#[]⟩ : ByteArray), 0, ([] : List S36)⟩ : S36)] : List S36), Blk b34 [.int .i64 y29.1.f0, .int .i64 y29.1.f1, .slice A31 y29.1.f2.length c32] 24, Row k24 24 (.slice A31 y29.1.f2.length c32) y29.1.f2, Blk b28 [.int .i64 y23.1.f0, .int .i64 y23.1.f1, .slice A25 y23.1.f2.length c26] 24]) [3, 4, 5, 6, 7] 8 rfl rfl rfl) ?_
              refine TA.not 26 rfl (by kernel_rfl) rfl (PQ.then_ PQ.body) (Wt.no rfl rfl rfl hk429) (fun W hO => (hb349 _ _ (hb364 _ _ (hb383 _ _ hO))).selT (Ls := [Row k24 24 (.slice A3 y1.f2.length c4) y1.f2, Row k36 36 (.slice (some ⟨b14, 0, none⟩) 1 1) ([(⟨5, (⟨#[]⟩ : ByteArray), 0, ([] : List S36)⟩ : S36)] : List S36), Blk b34 [.int .i64 y29.1.f0, .int .i64 y29.1.f1, .slice A31 y29.1.f2.length c32] 24, Row k24 24 (.slice A31 y29.1.f2.length c32) y29.1.f2, Blk b28 [.int .i64 y23.1.f0, .int .i64 y23.1.f1, .slice A25 y23.1.f2.length c26] 24]) [3, 4, 5, 6, 7] 8 rfl rfl rfl) ?_
              refine TA.not 27 rfl (by kernel_rfl) rfl (PQ.then_ PQ.body) (Wt.no rfl rfl rfl hk429) (fun W hO => (hb349 _ _ (hb364 _ _ (hb383 _ _ hO))).selT (Ls := [Row k24 24 (.slice A3 y1.f2.length c4) y1.f2, Row k36 36 (.slice (some ⟨b14, 0, none⟩) 1 1) ([(⟨5, (⟨#[]⟩ : ByteArray), 0, ([] : List S36)⟩ : S36)] : List S36), Blk b34 [.int .i64 y29.1.f0, .int .i64 y29.1.f1, .slice A31 y29.1.f2.length c32] 24, Row k24 24 (.slice A31 y29.1.f2.length c32) y29.1.f2, Blk b28 [.int .i64 y23.1.f0, .int .i64 y23.1.f1, .slice A25 y23.1.f2.length c26] 24]) [3, 4, 5, 6, 7] 8 rfl rfl rfl) ?_
              refine TA.take 28 rfl (by kernel_rfl) rfl (PQ.then_ PQ.body) rfl (Val.pickN rfl hk429 rfl) (fun W hO => (hb349 _ _ (hb364 _ _ (hb383 _ _ hO))).selT (Ls := [Row k24 24 (.slice A3 y1.f2.length c4) y1.f2, Row k36 36 (.slice (some ⟨b14, 0, none⟩) 1 1) ([(⟨5, (⟨#[]⟩ : ByteArray), 0, ([] : List S36)⟩ : S36)] : List S36), Blk b34 [.int .i64 y29.1.f0, .int .i64 y29.1.f1, .slice A31 y29.1.f2.length c32] 24, Row k24 24 (.slice A31 y29.1.f2.length c32) y29.1.f2, Blk b28 [.int .i64 y23.1.f0, .int .i64 y23.1.f1, .slice A25 y23.1.f2.length c26] 24]) [3, 4, 5, 6, 7] 8 rfl rfl rfl) ?_
              refine TA.take 29 rfl (by kernel_rfl) rfl (PQ.then_ PQ.body) rfl (Val.move rfl) (fun W hO => (hb349 _ _ (hb364 _ _ (hb383 _ _ hO))).selT (Ls := [Row k24 24 (.slice A3 y1.f2.length c4) y1.f2, Row k36 36 (.slice (some ⟨b14, 0, none⟩) 1 1) ([(⟨5, (⟨#[]⟩ : ByteArray), 0, ([] : List S36)⟩ : S36)] : List S36), Blk b34 [.int .i64 y29.1.f0, .int .i64 y29.1.f1, .slice A31 y29.1.f2.length c32] 24, Row k24 24 (.slice A31 y29.1.f2.length c32) y29.1.f2, Blk b28 [.int .i64 y23.1.f0, .int .i64 y23.1.f1, .slice A25 y23.1.f2.length c26] 24]) [3, 4, 5, 6, 7] 8 rfl rfl rfl) ?_
              refine TA.not 30 rfl (by kernel_rfl) rfl (PQ.then_ PQ.body) (Wt.no rfl rfl rfl rfl) (fun W hO => (hb349 _ _ (hb364 _ _ (hb383 _ _ hO))).selT (Ls := [Row k24 24 (.slice A3 y1.f2.length c4) y1.f2, Row k36 36 (.slice (some ⟨b14, 0, none⟩) 1 1) ([(⟨5, (⟨#[]⟩ : ByteArray), 0, ([] : List S36)⟩ : S36)] : List S36), Blk b34 [.int .i64 y29.1.f0, .int .i64 y29.1.f1, .slice A31 y29.1.f2.length c32] 24, Row k24 24 (.slice A31 y29.1.f2.length c32) y29.1.f2, Blk b28 [.int .i64 y23.1.f0, .int .i64 y23.1.f1, .slice A25 y23.1.f2.length c26] 24]) [3, 4, 5, 6, 7] 8 rfl rfl rfl) ?_
              refine TA.not 31 rfl (by kernel_rfl) rfl (PQ.then_ PQ.body) (Wt.no rfl rfl rfl rfl) (fun W hO => (hb349 _ _ (hb364 _ _ (hb383 _ _ hO))).selT (Ls := [Row k24 24 (.slice A3 y1.f2.length c4) y1.f2, Row k36 36 (.slice (some ⟨b14, 0, none⟩) 1 1) ([(⟨5, (⟨#[]⟩ : ByteArray), 0, ([] : List S36)⟩ : S36)] : List S36), Blk b34 [.int .i64 y29.1.f0, .int .i64 y29.1.f1, .slice A31 y29.1.f2.length c32] 24, Row k24 24 (.slice A31 y29.1.f2.length c32) y29.1.f2, Blk b28 [.int .i64 y23.1.f0, .int .i64 y23.1.f1, .slice A25 y23.1.f2.length c26] 24]) [3, 4, 5, 6, 7] 8 rfl rfl rfl) ?_
              refine TA.take 32 rfl (by kernel_rfl) rfl (PQ.then_ PQ.body) rfl (Val.pickN rfl rfl rfl) (fun W hO => (hb349 _ _ (hb364 _ _ (hb383 _ _ hO))).selT (Ls := [Row k24 24 (.slice A3 y1.f2.length c4) y1.f2, Row k36 36 (.slice (some ⟨b14, 0, none⟩) 1 1) ([(⟨5, (⟨#[]⟩ : ByteArray), 0, ([] : List S36)⟩ : S36)] : List S36), Blk b34 [.int .i64 y29.1.f0, .int .i64 y29.1.f1, .slice A31 y29.1.f2.length c32] 24, Row k24 24 (.slice A31 y29.1.f2.length c32) y29.1.f2, Blk b28 [.int .i64 y23.1.f0, .int .i64 y23.1.f1, .slice A25 y23.1.f2.length c26] 24]) [3, 4, 5, 6, 7] 8 rfl rfl rfl) ?_
              refine TA.take 33 rfl (by kernel_rfl) rfl (PQ.then_ PQ.body) rfl (Val.move rfl) (fun W hO => (hb349 _ _ (hb364 _ _ (hb383 _ _ hO))).selT (Ls := [Row k24 24 (.slice A3 y1.f2.length c4) y1.f2, Row k36 36 (.slice (some ⟨b14, 0, none⟩) 1 1) ([(⟨5, (⟨#[]⟩ : ByteArray), 0, ([] : List S36)⟩ : S36)] : List S36), Blk b34 [.int .i64 y29.1.f0, .int .i64 y29.1.f1, .slice A31 y29.1.f2.length c32] 24, Row k24 24 (.slice A31 y29.1.f2.length c32) y29.1.f2, Blk b28 [.int .i64 y23.1.f0, .int .i64 y23.1.f1, .slice A25 y23.1.f2.length c26] 24]) [3, 4, 5, 6, 7] 8 rfl rfl rfl) ?_
              refine TA.not 34 rfl (by kernel_rfl) rfl (PQ.then_ PQ.body) (Wt.no rfl rfl rfl rfl) (fun W hO => (hb349 _ _ (hb364 _ _ (hb383 _ _ hO))).selT (Ls := [Row k24 24 (.slice A3 y1.f2.length c4) y1.f2, Row k36 36 (.slice (some ⟨b14, 0, none⟩) 1 1) ([(⟨5, (⟨#[]⟩ : ByteArray), 0, ([] : List S36)⟩ : S36)] : List S36), Blk b34 [.int .i64 y29.1.f0, .int .i64 y29.1.f1, .slice A31 y29.1.f2.length c32] 24, Row k24 24 (.slice A31 y29.1.f2.length c32) y29.1.f2, Blk b28 [.int .i64 y23.1.f0, .int .i64 y23.1.f1, .slice A25 y23.1.f2.length c26] 24]) [3, 4, 5, 6, 7] 8 rfl rfl rfl) ?_
              refine TA.not 35 rfl (by kernel_rfl) rfl (PQ.then_ PQ.body) (Wt.no rfl rfl rfl rfl) (fun W hO => (hb349 _ _ (hb364 _ _ (hb383 _ _ hO))).selT (Ls := [Row k24 24 (.slice A3 y1.f2.length c4) y1.f2, Row k36 36 (.slice (some ⟨b14, 0, none⟩) 1 1) ([(⟨5, (⟨#[]⟩ : ByteArray), 0, ([] : List S36)⟩ : S36)] : List S36), Blk b34 [.int .i64 y29.1.f0, .int .i64 y29.1.f1, .slice A31 y29.1.f2.length c32] 24, Row k24 24 (.slice A31 y29.1.f2.length c32) y29.1.f2, Blk b28 [.int .i64 y23.1.f0, .int .i64 y23.1.f1, .slice A25 y23.1.f2.length c26] 24]) [3, 4, 5, 6, 7] 8 rfl rfl rfl) ?_
              refine TA.take 36 rfl (by kernel_rfl) rfl (PQ.then_ PQ.body) rfl (Val.pickN rfl rfl rfl) (fun W hO => (hb349 _ _ (hb364 _ _ (hb383 _ _ hO))).selT (Ls := [Row k24 24 (.slice A3 y1.f2.length c4) y1.f2, Row k36 36 (.slice (some ⟨b14, 0, none⟩) 1 1) ([(⟨5, (⟨#[]⟩ : ByteArray), 0, ([] : List S36)⟩ : S36)] : List S36), Blk b34 [.int .i64 y29.1.f0, .int .i64 y29.1.f1, .slice A31 y29.1.f2.length c32] 24, Row k24 24 (.slice A31 y29.1.f2.length c32) y29.1.f2, Blk b28 [.int .i64 y23.1.f0, .int .i64 y23.1.f1, .slice A25 y23.1.f2.length c26] 24]) [3, 4, 5, 6, 7] 8 rfl rfl rfl) ?_
              refine TA.take 37 rfl (by kernel_rfl) rfl (PQ.then_ PQ.body) rfl (Val.move rfl) (fun W hO => (hb349 _ _ (hb364 _ _ (hb383 _ _ hO))).selT (Ls := [Row k24 24 (.slice A3 y1.f2.length c4) y1.f2, Row k36 36 (.slice (some ⟨b14, 0, none⟩) 1 1) ([(⟨5, (⟨#[]⟩ : ByteArray), 0, ([] : List S36)⟩ : S36)] : List S36), Blk b34 [.int .i64 y29.1.f0, .int .i64 y29.1.f1, .slice A31 y29.1.f2.length c32] 24, Row k24 24 (.slice A31 y29.1.f2.length c32) y29.1.f2, Blk b28 [.int .i64 y23.1.f0, .int .i64 y23.1.f1, .slice A25 y23.1.f2.length c26] 24]) [3, 4, 5, 6, 7] 8 rfl rfl rfl) ?_
              refine TA.not 38 rfl (by kernel_rfl) rfl (PQ.then_ PQ.body) (Wt.no rfl rfl rfl rfl) (fun W hO => (hb349 _ _ (hb364 _ _ (hb383 _ _ hO))).selT (Ls := [Row k24 24 (.slice A3 y1.f2.length c4) y1.f2, Row k36 36 (.slice (some ⟨b14, 0, none⟩) 1 1) ([(⟨5, (⟨#[]⟩ : ByteArray), 0, ([] : List S36)⟩ : S36)] : List S36), Blk b34 [.int .i64 y29.1.f0, .int .i64 y29.1.f1, .slice A31 y29.1.f2.length c32] 24, Row k24 24 (.slice A31 y29.1.f2.length c32) y29.1.f2, Blk b28 [.int .i64 y23.1.f0, .int .i64 y23.1.f1, .slice A25 y23.1.f2.length c26] 24]) [3, 4, 5, 6, 7] 8 rfl rfl rfl) ?_
              refine TA.not 39 rfl (by kernel_rfl) rfl (PQ.then_ PQ.body) (Wt.no rfl rfl rfl rfl) (fun W hO => (hb349 _ _ (hb364 _ _ (hb383 _ _ hO))).selT (Ls := [Row k24 24 (.slice A3 y1.f2.length c4) y1.f2, Row k36 36 (.slice (some ⟨b14, 0, none⟩) 1 1) ([(⟨5, (⟨#[]⟩ : ByteArray), 0, ([] : List S36)⟩ : S36)] : List S36), Blk b34 [.int .i64 y29.1.f0, .int .i64 y29.1.f1, .slice A31 y29.1.f2.length c32] 24, Row k24 24 (.slice A31 y29.1.f2.length c32) y29.1.f2, Blk b28 [.int .i64 y23.1.f0, .int .i64 y23.1.f1, .slice A25 y23.1.f2.length c26] 24]) [3, 4, 5, 6, 7] 8 rfl rfl rfl) ?_
              refine TA.not 40 rfl (by kernel_rfl) rfl (PQ.then_ PQ.body) (Wt.no rfl rfl rfl rfl) (fun W hO => (hb349 _ _ (hb364 _ _ (hb383 _ _ hO))).selT (Ls := [Row k24 24 (.slice A3 y1.f2.length c4) y1.f2, Row k36 36 (.slice (some ⟨b14, 0, none⟩) 1 1) ([(⟨5, (⟨#[]⟩ : ByteArray), 0, ([] : List S36)⟩ : S36)] : List S36), Blk b34 [.int .i64 y29.1.f0, .int .i64 y29.1.f1, .slice A31 y29.1.f2.length c32] 24, Row k24 24 (.slice A31 y29.1.f2.length c32) y29.1.f2, Blk b28 [.int .i64 y23.1.f0, .int .i64 y23.1.f1, .slice A25 y23.1.f2.length c26] 24]) [3, 4, 5, 6, 7] 8 rfl rfl rfl) ?_
              refine TA.take 41 rfl (by kernel_rfl) rfl (PQ.then_ PQ.body) rfl (Val.pickN rfl rfl rfl) (fun W hO => (hb349 _ _ (hb364 _ _ (hb383 _ _ hO))).selT (Ls := [Row k24 24 (.slice A3 y1.f2.length c4) y1.f2, Row k36 36 (.slice (some ⟨b14, 0, none⟩) 1 1) ([(⟨5, (⟨#[]⟩ : ByteArray), 0, ([] : List S36)⟩ : S36)] : List S36), Blk b34 [.int .i64 y29.1.f0, .int .i64 y29.1.f1, .slice A31 y29.1.f2.length c32] 24, Row k24 24 (.slice A31 y29.1.f2.length c32) y29.1.f2, Blk b28 [.int .i64 y23.1.f0, .int .i64 y23.1.f1, .slice A25 y23.1.f2.length c26] 24]) [3, 4, 5, 6, 7] 8 rfl rfl rfl) ?_
              refine TA.take 42 rfl (by kernel_rfl) rfl (PQ.then_ PQ.body) rfl (Val.assign rfl) (fun W hO => (hb349 _ _ (hb364 _ _ (hb383 _ _ hO))).selT (Ls := [Row k24 24 (.slice A3 y1.f2.length c4) y1.f2, Row k36 36 (.slice (some ⟨b14, 0, none⟩) 1 1) ([(⟨5, (⟨#[]⟩ : ByteArray), 0, ([] : List S36)⟩ : S36)] : List S36), Blk b34 [.int .i64 y29.1.f0, .int .i64 y29.1.f1, .slice A31 y29.1.f2.length c32] 24, Row k24 24 (.slice A31 y29.1.f2.length c32) y29.1.f2, Blk b28 [.int .i64 y23.1.f0, .int .i64 y23.1.f1, .slice A25 y23.1.f2.length c26] 24]) [3, 4, 5, 6, 7] 8 rfl rfl rfl) ?_
              refine TA.done (by kernel_rfl) ?_
              refine TQ.then_ ?_
              refine TC.ret ?_
              refine TQ.back hb383 ?_
              refine TQ.back hb364 ?_
              refine TQ.back hb349 ?_
              refine TQ.back hb338 ?_
              obtain rfl := Option.some.inj h
              exact TQ.fin (.inl rfl) rfl Tryd.results7 (.tmp rfl .nil) rfl (FRel.mk (Ls := []) [] 9 (Gd.le.refl _) rfl rfl rfl ⟨rfl, rfl, rfl⟩)
          · have hk430 : (y386.data.toList == (⟨#[40, 105, 110, 116, 44, 91, 51, 93, 42, 105, 110, 116, 44, 105, 110, 116, 41]⟩ : ByteArray).data.toList) = false := (by simpa using hg388)
            refine TA.not 20 rfl (by kernel_rfl) rfl (PQ.then_ PQ.body) (Wt.no rfl rfl rfl hk430) (fun W hO => (hb349 _ _ (hb364 _ _ (hb383 _ _ hO))).selT (Ls := [Row k24 24 (.slice A3 y1.f2.length c4) y1.f2, Row k36 36 (.slice (some ⟨b14, 0, none⟩) 1 1) ([(⟨5, (⟨#[]⟩ : ByteArray), 0, ([] : List S36)⟩ : S36)] : List S36), Blk b34 [.int .i64 y29.1.f0, .int .i64 y29.1.f1, .slice A31 y29.1.f2.length c32] 24, Row k24 24 (.slice A31 y29.1.f2.length c32) y29.1.f2, Blk b28 [.int .i64 y23.1.f0, .int .i64 y23.1.f1, .slice A25 y23.1.f2.length c26] 24]) [3, 4, 5, 6, 7] 8 rfl rfl rfl) ?_
            refine TA.not 21 rfl (by kernel_rfl) rfl (PQ.then_ PQ.body) (Wt.no rfl rfl rfl hk430) (fun W hO => (hb349 _ _ (hb364 _ _ (hb383 _ _ hO))).selT (Ls := [Row k24 24 (.slice A3 y1.f2.length c4) y1.f2, Row k36 36 (.slice (some ⟨b14, 0, none⟩) 1 1) ([(⟨5, (⟨#[]⟩ : ByteArray), 0, ([] : List S36)⟩ : S36)] : List S36), Blk b34 [.int .i64 y29.1.f0, .int .i64 y29.1.f1, .slice A31 y29.1.f2.length c32] 24, Row k24 24 (.slice A31 y29.1.f2.length c32) y29.1.f2, Blk b28 [.int .i64 y23.1.f0, .int .i64 y23.1.f1, .slice A25 y23.1.f2.length c26] 24]) [3, 4, 5, 6, 7] 8 rfl rfl rfl) ?_
            refine TA.take 22 rfl (by kernel_rfl) rfl (PQ.then_ PQ.body) rfl (Val.pickN rfl hk430 rfl) (fun W hO => (hb349 _ _ (hb364 _ _ (hb383 _ _ hO))).selT (Ls := [Row k24 24 (.slice A3 y1.f2.length c4) y1.f2, Row k36 36 (.slice (some ⟨b14, 0, none⟩) 1 1) ([(⟨5, (⟨#[]⟩ : ByteArray), 0, ([] : List S36)⟩ : S36)] : List S36), Blk b34 [.int .i64 y29.1.f0, .int .i64 y29.1.f1, .slice A31 y29.1.f2.length c32] 24, Row k24 24 (.slice A31 y29.1.f2.length c32) y29.1.f2, Blk b28 [.int .i64 y23.1.f0, .int .i64 y23.1.f1, .slice A25 y23.1.f2.length c26] 24]) [3, 4, 5, 6, 7] 8 rfl rfl rfl) ?_
            refine TA.take 23 rfl (by kernel_rfl) rfl (PQ.then_ PQ.body) rfl (Val.move rfl) (fun W hO => (hb349 _ _ (hb364 _ _ (hb383 _ _ hO))).selT (Ls := [Row k24 24 (.slice A3 y1.f2.length c4) y1.f2, Row k36 36 (.slice (some ⟨b14, 0, none⟩) 1 1) ([(⟨5, (⟨#[]⟩ : ByteArray), 0, ([] : List S36)⟩ : S36)] : List S36), Blk b34 [.int .i64 y29.1.f0, .int .i64 y29.1.f1, .slice A31 y29.1.f2.length c32] 24, Row k24 24 (.slice A31 y29.1.f2.length c32) y29.1.f2, Blk b28 [.int .i64 y23.1.f0, .int .i64 y23.1.f1, .slice A25 y23.1.f2.length c26] 24]) [3, 4, 5, 6, 7] 8 rfl rfl rfl) ?_
            refine TA.not 24 rfl (by kernel_rfl) rfl (PQ.then_ PQ.body) (Wt.no rfl rfl rfl rfl) (fun W hO => (hb349 _ _ (hb364 _ _ (hb383 _ _ hO))).selT (Ls := [Row k24 24 (.slice A3 y1.f2.length c4) y1.f2, Row k36 36 (.slice (some ⟨b14, 0, none⟩) 1 1) ([(⟨5, (⟨#[]⟩ : ByteArray), 0, ([] : List S36)⟩ : S36)] : List S36), Blk b34 [.int .i64 y29.1.f0, .int .i64 y29.1.f1, .slice A31 y29.1.f2.length c32] 24, Row k24 24 (.slice A31 y29.1.f2.length c32) y29.1.f2, Blk b28 [.int .i64 y23.1.f0, .int .i64 y23.1.f1, .slice A25 y23.1.f2.length c26] 24]) [3, 4, 5, 6, 7] 8 rfl rfl rfl) ?_
            refine TA.not 25 rfl (by kernel_rfl) rfl (PQ.then_ PQ.body) (Wt.no rfl rfl rfl rfl) (fun W hO => (hb349 _ _ (hb364 _ _ (hb383 _ _ hO))).selT (Ls := [Row k24 24 (.slice A3 y1.f2.length c4) y1.f2, Row k36 36 (.slice (some ⟨b14, 0, none⟩) 1 1) ([(⟨5, (⟨#[]⟩ : ByteArray), 0, ([] : List S36)⟩ : S36)] : List S36), Blk b34 [.int .i64 y29.1.f0, .int .i64 y29.1.f1, .slice A31 y29.1.f2.length c32] 24, Row k24 24 (.slice A31 y29.1.f2.length c32) y29.1.f2, Blk b28 [.int .i64 y23.1.f0, .int .i64 y23.1.f1, .slice A25 y23.1.f2.length c26] 24]) [3, 4, 5, 6, 7] 8 rfl rfl rfl) ?_
            refine TA.not 26 rfl (by kernel_rfl) rfl (PQ.then_ PQ.body) (Wt.no rfl rfl rfl rfl) (fun W hO => (hb349 _ _ (hb364 _ _ (hb383 _ _ hO))).selT (Ls := [Row k24 24 (.slice A3 y1.f2.length c4) y1.f2, Row k36 36 (.slice (some ⟨b14, 0, none⟩) 1 1) ([(⟨5, (⟨#[]⟩ : ByteArray), 0, ([] : List S36)⟩ : S36)] : List S36), Blk b34 [.int .i64 y29.1.f0, .int .i64 y29.1.f1, .slice A31 y29.1.f2.length c32] 24, Row k24 24 (.slice A31 y29.1.f2.length c32) y29.1.f2, Blk b28 [.int .i64 y23.1.f0, .int .i64 y23.1.f1, .slice A25 y23.1.f2.length c26] 24]) [3, 4, 5, 6, 7] 8 rfl rfl rfl) ?_
            refine TA.not 27 rfl (by kernel_rfl) rfl (PQ.then_ PQ.body) (Wt.no rfl rfl rfl rfl) (fun W hO => (hb349 _ _ (hb364 _ _ (hb383 _ _ hO))).selT (Ls := [Row k24 24 (.slice A3 y1.f2.length c4) y1.f2, Row k36 36 (.slice (some ⟨b14, 0, none⟩) 1 1) ([(⟨5, (⟨#[]⟩ : ByteArray), 0, ([] : List S36)⟩ : S36)] : List S36), Blk b34 [.int .i64 y29.1.f0, .int .i64 y29.1.f1, .slice A31 y29.1.f2.length c32] 24, Row k24 24 (.slice A31 y29.1.f2.length c32) y29.1.f2, Blk b28 [.int .i64 y23.1.f0, .int .i64 y23.1.f1, .slice A25 y23.1.f2.length c26] 24]) [3, 4, 5, 6, 7] 8 rfl rfl rfl) ?_
            refine TA.take 28 rfl (by kernel_rfl) rfl (PQ.then_ PQ.body) rfl (Val.pickN rfl rfl rfl) (fun W hO => (hb349 _ _ (hb364 _ _ (hb383 _ _ hO))).selT (Ls := [Row k24 24 (.slice A3 y1.f2.length c4) y1.f2, Row k36 36 (.slice (some ⟨b14, 0, none⟩) 1 1) ([(⟨5, (⟨#[]⟩ : ByteArray), 0, ([] : List S36)⟩ : S36)] : List S36), Blk b34 [.int .i64 y29.1.f0, .int .i64 y29.1.f1, .slice A31 y29.1.f2.length c32] 24, Row k24 24 (.slice A31 y29.1.f2.length c32) y29.1.f2, Blk b28 [.int .i64 y23.1.f0, .int .i64 y23.1.f1, .slice A25 y23.1.f2.length c26] 24]) [3, 4, 5, 6, 7] 8 rfl rfl rfl) ?_
            refine TA.take 29 rfl (by kernel_rfl) rfl (PQ.then_ PQ.body) rfl (Val.move rfl) (fun W hO => (hb349 _ _ (hb364 _ _ (hb383 _ _ hO))).selT (Ls := [Row k24 24 (.slice A3 y1.f2.length c4) y1.f2, Row k36 36 (.slice (some ⟨b14, 0, none⟩) 1 1) ([(⟨5, (⟨#[]⟩ : ByteArray), 0, ([] : List S36)⟩ : S36)] : List S36), Blk b34 [.int .i64 y29.1.f0, .int .i64 y29.1.f1, .slice A31 y29.1.f2.length c32] 24, Row k24 24 (.slice A31 y29.1.f2.length c32) y29.1.f2, Blk b28 [.int .i64 y23.1.f0, .int .i64 y23.1.f1, .slice A25 y23.1.f2.length c26] 24]) [3, 4, 5, 6, 7] 8 rfl rfl rfl) ?_
            refine TA.not 30 rfl (by kernel_rfl) rfl (PQ.then_ PQ.body) (Wt.no rfl rfl rfl rfl) (fun W hO => (hb349 _ _ (hb364 _ _ (hb383 _ _ hO))).selT (Ls := [Row k24 24 (.slice A3 y1.f2.length c4) y1.f2, Row k36 36 (.slice (some ⟨b14, 0, none⟩) 1 1) ([(⟨5, (⟨#[]⟩ : ByteArray), 0, ([] : List S36)⟩ : S36)] : List S36), Blk b34 [.int .i64 y29.1.f0, .int .i64 y29.1.f1, .slice A31 y29.1.f2.length c32] 24, Row k24 24 (.slice A31 y29.1.f2.length c32) y29.1.f2, Blk b28 [.int .i64 y23.1.f0, .int .i64 y23.1.f1, .slice A25 y23.1.f2.length c26] 24]) [3, 4, 5, 6, 7] 8 rfl rfl rfl) ?_
            refine TA.not 31 rfl (by kernel_rfl) rfl (PQ.then_ PQ.body) (Wt.no rfl rfl rfl rfl) (fun W hO => (hb349 _ _ (hb364 _ _ (hb383 _ _ hO))).selT (Ls := [Row k24 24 (.slice A3 y1.f2.length c4) y1.f2, Row k36 36 (.slice (some ⟨b14, 0, none⟩) 1 1) ([(⟨5, (⟨#[]⟩ : ByteArray), 0, ([] : List S36)⟩ : S36)] : List S36), Blk b34 [.int .i64 y29.1.f0, .int .i64 y29.1.f1, .slice A31 y29.1.f2.length c32] 24, Row k24 24 (.slice A31 y29.1.f2.length c32) y29.1.f2, Blk b28 [.int .i64 y23.1.f0, .int .i64 y23.1.f1, .slice A25 y23.1.f2.length c26] 24]) [3, 4, 5, 6, 7] 8 rfl rfl rfl) ?_
            refine TA.take 32 rfl (by kernel_rfl) rfl (PQ.then_ PQ.body) rfl (Val.pickN rfl rfl rfl) (fun W hO => (hb349 _ _ (hb364 _ _ (hb383 _ _ hO))).selT (Ls := [Row k24 24 (.slice A3 y1.f2.length c4) y1.f2, Row k36 36 (.slice (some ⟨b14, 0, none⟩) 1 1) ([(⟨5, (⟨#[]⟩ : ByteArray), 0, ([] : List S36)⟩ : S36)] : List S36), Blk b34 [.int .i64 y29.1.f0, .int .i64 y29.1.f1, .slice A31 y29.1.f2.length c32] 24, Row k24 24 (.slice A31 y29.1.f2.length c32) y29.1.f2, Blk b28 [.int .i64 y23.1.f0, .int .i64 y23.1.f1, .slice A25 y23.1.f2.length c26] 24]) [3, 4, 5, 6, 7] 8 rfl rfl rfl) ?_
            refine TA.take 33 rfl (by kernel_rfl) rfl (PQ.then_ PQ.body) rfl (Val.move rfl) (fun W hO => (hb349 _ _ (hb364 _ _ (hb383 _ _ hO))).selT (Ls := [Row k24 24 (.slice A3 y1.f2.length c4) y1.f2, Row k36 36 (.slice (some ⟨b14, 0, none⟩) 1 1) ([(⟨5, (⟨#[]⟩ : ByteArray), 0, ([] : List S36)⟩ : S36)] : List S36), Blk b34 [.int .i64 y29.1.f0, .int .i64 y29.1.f1, .slice A31 y29.1.f2.length c32] 24, Row k24 24 (.slice A31 y29.1.f2.length c32) y29.1.f2, Blk b28 [.int .i64 y23.1.f0, .int .i64 y23.1.f1, .slice A25 y23.1.f2.length c26] 24]) [3, 4, 5, 6, 7] 8 rfl rfl rfl) ?_
            refine TA.not 34 rfl (by kernel_rfl) rfl (PQ.then_ PQ.body) (Wt.no rfl rfl rfl rfl) (fun W hO => (hb349 _ _ (hb364 _ _ (hb383 _ _ hO))).selT (Ls := [Row k24 24 (.slice A3 y1.f2.length c4) y1.f2, Row k36 36 (.slice (some ⟨b14, 0, none⟩) 1 1) ([(⟨5, (⟨#[]⟩ : ByteArray), 0, ([] : List S36)⟩ : S36)] : List S36), Blk b34 [.int .i64 y29.1.f0, .int .i64 y29.1.f1, .slice A31 y29.1.f2.length c32] 24, Row k24 24 (.slice A31 y29.1.f2.length c32) y29.1.f2, Blk b28 [.int .i64 y23.1.f0, .int .i64 y23.1.f1, .slice A25 y23.1.f2.length c26] 24]) [3, 4, 5, 6, 7] 8 rfl rfl rfl) ?_
            refine TA.not 35 rfl (by kernel_rfl) rfl (PQ.then_ PQ.body) (Wt.no rfl rfl rfl rfl) (fun W hO => (hb349 _ _ (hb364 _ _ (hb383 _ _ hO))).selT (Ls := [Row k24 24 (.slice A3 y1.f2.length c4) y1.f2, Row k36 36 (.slice (some ⟨b14, 0, none⟩) 1 1) ([(⟨5, (⟨#[]⟩ : ByteArray), 0, ([] : List S36)⟩ : S36)] : List S36), Blk b34 [.int .i64 y29.1.f0, .int .i64 y29.1.f1, .slice A31 y29.1.f2.length c32] 24, Row k24 24 (.slice A31 y29.1.f2.length c32) y29.1.f2, Blk b28 [.int .i64 y23.1.f0, .int .i64 y23.1.f1, .slice A25 y23.1.f2.length c26] 24]) [3, 4, 5, 6, 7] 8 rfl rfl rfl) ?_
            refine TA.take 36 rfl (by kernel_rfl) rfl (PQ.then_ PQ.body) rfl (Val.pickN rfl rfl rfl) (fun W hO => (hb349 _ _ (hb364 _ _ (hb383 _ _ hO))).selT (Ls := [Row k24 24 (.slice A3 y1.f2.length c4) y1.f2, Row k36 36 (.slice (some ⟨b14, 0, none⟩) 1 1) ([(⟨5, (⟨#[]⟩ : ByteArray), 0, ([] : List S36)⟩ : S36)] : List S36), Blk b34 [.int .i64 y29.1.f0, .int .i64 y29.1.f1, .slice A31 y29.1.f2.length c32] 24, Row k24 24 (.slice A31 y29.1.f2.length c32) y29.1.f2, Blk b28 [.int .i64 y23.1.f0, .int .i64 y23.1.f1, .slice A25 y23.1.f2.length c26] 24]) [3, 4, 5, 6, 7] 8 rfl rfl rfl) ?_
            refine TA.take 37 rfl (by kernel_rfl) rfl (PQ.then_ PQ.body) rfl (Val.move rfl) (fun W hO => (hb349 _ _ (hb364 _ _ (hb383 _ _ hO))).selT (Ls := [Row k24 24 (.slice A3 y1.f2.length c4) y1.f2, Row k36 36 (.slice (some ⟨b14, 0, none⟩) 1 1) ([(⟨5, (⟨#[]⟩ : ByteArray), 0, ([] : List S36)⟩ : S36)] : List S36), Blk b34 [.int .i64 y29.1.f0, .int .i64 y29.1.f1, .slice A31 y29.1.f2.length c32] 24, Row k24 24 (.slice A31 y29.1.f2.length c32) y29.1.f2, Blk b28 [.int .i64 y23.1.f0, .int .i64 y23.1.f1, .slice A25 y23.1.f2.length c26] 24]) [3, 4, 5, 6, 7] 8 rfl rfl rfl) ?_
            refine TA.not 38 rfl (by kernel_rfl) rfl (PQ.then_ PQ.body) (Wt.no rfl rfl rfl rfl) (fun W hO => (hb349 _ _ (hb364 _ _ (hb383 _ _ hO))).selT (Ls := [Row k24 24 (.slice A3 y1.f2.length c4) y1.f2, Row k36 36 (.slice (some ⟨b14, 0, none⟩) 1 1) ([(⟨5, (⟨#[]⟩ : ByteArray), 0, ([] : List S36)⟩ : S36)] : List S36), Blk b34 [.int .i64 y29.1.f0, .int .i64 y29.1.f1, .slice A31 y29.1.f2.length c32] 24, Row k24 24 (.slice A31 y29.1.f2.length c32) y29.1.f2, Blk b28 [.int .i64 y23.1.f0, .int .i64 y23.1.f1, .slice A25 y23.1.f2.length c26] 24]) [3, 4, 5, 6, 7] 8 rfl rfl rfl) ?_
            refine TA.not 39 rfl (by kernel_rfl) rfl (PQ.then_ PQ.body) (Wt.no rfl rfl rfl rfl) (fun W hO => (hb349 _ _ (hb364 _ _ (hb383 _ _ hO))).selT (Ls := [Row k24 24 (.slice A3 y1.f2.length c4) y1.f2, Row k36 36 (.slice (some ⟨b14, 0, none⟩) 1 1) ([(⟨5, (⟨#[]⟩ : ByteArray), 0, ([] : List S36)⟩ : S36)] : List S36), Blk b34 [.int .i64 y29.1.f0, .int .i64 y29.1.f1, .slice A31 y29.1.f2.length c32] 24, Row k24 24 (.slice A31 y29.1.f2.length c32) y29.1.f2, Blk b28 [.int .i64 y23.1.f0, .int .i64 y23.1.f1, .slice A25 y23.1.f2.length c26] 24]) [3, 4, 5, 6, 7] 8 rfl rfl rfl) ?_
            refine TA.not 40 rfl (by kernel_rfl) rfl (PQ.then_ PQ.body) (Wt.no rfl rfl rfl rfl) (fun W hO => (hb349 _ _ (hb364 _ _ (hb383 _ _ hO))).selT (Ls := [Row k24 24 (.slice A3 y1.f2.length c4) y1.f2, Row k36 36 (.slice (some ⟨b14, 0, none⟩) 1 1) ([(⟨5, (⟨#[]⟩ : ByteArray), 0, ([] : List S36)⟩ : S36)] : List S36), Blk b34 [.int .i64 y29.1.f0, .int .i64 y29.1.f1, .slice A31 y29.1.f2.length c32] 24, Row k24 24 (.slice A31 y29.1.f2.length c32) y29.1.f2, Blk b28 [.int .i64 y23.1.f0, .int .i64 y23.1.f1, .slice A25 y23.1.f2.length c26] 24]) [3, 4, 5, 6, 7] 8 rfl rfl rfl) ?_
            refine TA.take 41 rfl (by kernel_rfl) rfl (PQ.then_ PQ.body) rfl (Val.pickN rfl rfl rfl) (fun W hO => (hb349 _ _ (hb364 _ _ (hb383 _ _ hO))).selT (Ls := [Row k24 24 (.slice A3 y1.f2.length c4) y1.f2, Row k36 36 (.slice (some ⟨b14, 0, none⟩) 1 1) ([(⟨5, (⟨#[]⟩ : ByteArray), 0, ([] : List S36)⟩ : S36)] : List S36), Blk b34 [.int .i64 y29.1.f0, .int .i64 y29.1.f1, .slice A31 y29.1.f2.length c32] 24, Row k24 24 (.slice A31 y29.1.f2.length c32) y29.1.f2, Blk b28 [.int .i64 y23.1.f0, .int .i64 y23.1.f1, .slice A25 y23.1.f2.length c26] 24]) [3, 4, 5, 6, 7] 8 rfl rfl rfl) ?_
            refine TA.take 42 rfl (by kernel_rfl) rfl (PQ.then_ PQ.body) rfl (Val.assign rfl) (fun W hO => (hb349 _ _ (hb364 _ _ (hb383 _ _ hO))).selT (Ls := [Row k24 24 (.slice A3 y1.f2.length c4) y1.f2, Row k36 36 (.slice (some ⟨b14, 0, none⟩) 1 1) ([(⟨5, (⟨#[]⟩ : ByteArray), 0, ([] : List S36)⟩ : S36)] : List S36), Blk b34 [.int .i64 y29.1.f0, .int .i64 y29.1.f1, .slice A31 y29.1.f2.length c32] 24, Row k24 24 (.slice A31 y29.1.f2.length c32) y29.1.f2, Blk b28 [.int .i64 y23.1.f0, .int .i64 y23.1.f1, .slice A25 y23.1.f2.length c26] 24]) [3, 4, 5, 6, 7] 8 rfl rfl rfl) ?_
            refine TA.done (by kernel_rfl) ?_
            refine TQ.then_ ?_
            refine TC.ret ?_
            refine TQ.back hb383 ?_
            refine TQ.back hb364 ?_
            refine TQ.back hb349 ?_
            refine TQ.back hb338 ?_
            obtain rfl := Option.some.inj h
            exact TQ.fin (.inl rfl) rfl Tryd.results7 (.tmp rfl .nil) rfl (FRel.mk (Ls := []) [] 9 (Gd.le.refl _) rfl rfl rfl ⟨rfl, rfl, rfl⟩)
        · have hk431 : y12.2 = false := (by simpa using hg373)
          refine TA.not 15 rfl (by kernel_rfl) rfl (PQ.then_ PQ.body) (Wt.no rfl rfl rfl hk431) (fun W hO => (hb349 _ _ (hb364 _ _ hO)).selT (Ls := [Row k24 24 (.slice A3 y1.f2.length c4) y1.f2, Row k36 36 (.slice (some ⟨b14, 0, none⟩) 1 1) ([(⟨5, (⟨#[]⟩ : ByteArray), 0, ([] : List S36)⟩ : S36)] : List S36), Blk b34 [.int .i64 y29.1.f0, .int .i64 y29.1.f1, .slice A31 y29.1.f2.length c32] 24, Row k24 24 (.slice A31 y29.1.f2.length c32) y29.1.f2, Blk b28 [.int .i64 y23.1.f0, .int .i64 y23.1.f1, .slice A25 y23.1.f2.length c26] 24]) [2, 3, 4, 5, 6] 7 rfl rfl rfl) ?_
          refine TA.not 16 rfl (by kernel_rfl) rfl (PQ.then_ PQ.body) (Wt.no rfl rfl rfl hk431) (fun W hO => (hb349 _ _ (hb364 _ _ hO)).selT (Ls := [Row k24 24 (.slice A3 y1.f2.length c4) y1.f2, Row k36 36 (.slice (some ⟨b14, 0, none⟩) 1 1) ([(⟨5, (⟨#[]⟩ : ByteArray), 0, ([] : List S36)⟩ : S36)] : List S36), Blk b34 [.int .i64 y29.1.f0, .int .i64 y29.1.f1, .slice A31 y29.1.f2.length c32] 24, Row k24 24 (.slice A31 y29.1.f2.length c32) y29.1.f2, Blk b28 [.int .i64 y23.1.f0, .int .i64 y23.1.f1, .slice A25 y23.1.f2.length c26] 24]) [2, 3, 4, 5, 6] 7 rfl rfl rfl) ?_
          refine TA.not 17 rfl (by kernel_rfl) rfl (PQ.then_ PQ.body) (Wt.no rfl rfl rfl hk431) (fun W hO => (hb349 _ _ (hb364 _ _ hO)).selT (Ls := [Row k24 24 (.slice A3 y1.f2.length c4) y1.f2, Row k36 36 (.slice (some ⟨b14, 0, none⟩) 1 1) ([(⟨5, (⟨#[]⟩ : ByteArray), 0, ([] : List S36)⟩ : S36)] : List S36), Blk b34 [.int .i64 y29.1.f0, .int .i64 y29.1.f1, .slice A31 y29.1.f2.length c32] 24, Row k24 24 (.slice A31 y29.1.f2.length c32) y29.1.f2, Blk b28 [.int .i64 y23.1.f0, .int .i64 y23.1.f1, .slice A25 y23.1.f2.length c26] 24]) [2, 3, 4, 5, 6] 7 rfl rfl rfl) ?_
          refine TA.take 18 rfl (by kernel_rfl) rfl (PQ.then_ PQ.body) rfl (Val.pickN rfl hk431 rfl) (fun W hO => (hb349 _ _ (hb364 _ _ hO)).selT (Ls := [Row k24 24 (.slice A3 y1.f2.length c4) y1.f2, Row k36 36 (.slice (some ⟨b14, 0, none⟩) 1 1) ([(⟨5, (⟨#[]⟩ : ByteArray), 0, ([] : List S36)⟩ : S36)] : List S36), Blk b34 [.int .i64 y29.1.f0, .int .i64 y29.1.f1, .slice A31 y29.1.f2.length c32] 24, Row k24 24 (.slice A31 y29.1.f2.length c32) y29.1.f2, Blk b28 [.int .i64 y23.1.f0, .int .i64 y23.1.f1, .slice A25 y23.1.f2.length c26] 24]) [2, 3, 4, 5, 6] 7 rfl rfl rfl) ?_
          refine TA.take 19 rfl (by kernel_rfl) rfl (PQ.then_ PQ.body) rfl (Val.move rfl) (fun W hO => (hb349 _ _ (hb364 _ _ hO)).selT (Ls := [Row k24 24 (.slice A3 y1.f2.length c4) y1.f2, Row k36 36 (.slice (some ⟨b14, 0, none⟩) 1 1) ([(⟨5, (⟨#[]⟩ : ByteArray), 0, ([] : List S36)⟩ : S36)] : List S36), Blk b34 [.int .i64 y29.1.f0, .int .i64 y29.1.f1, .slice A31 y29.1.f2.length c32] 24, Row k24 24 (.slice A31 y29.1.f2.length c32) y29.1.f2, Blk b28 [.int .i64 y23.1.f0, .int .i64 y23.1.f1, .slice A25 y23.1.f2.length c26] 24]) [2, 3, 4, 5, 6] 7 rfl rfl rfl) ?_
          refine TA.not 20 rfl (by kernel_rfl) rfl (PQ.then_ PQ.body) (Wt.no rfl rfl rfl rfl) (fun W hO => (hb349 _ _ (hb364 _ _ hO)).selT (Ls := [Row k24 24 (.slice A3 y1.f2.length c4) y1.f2, Row k36 36 (.slice (some ⟨b14, 0, none⟩) 1 1) ([(⟨5, (⟨#[]⟩ : ByteArray), 0, ([] : List S36)⟩ : S36)] : List S36), Blk b34 [.int .i64 y29.1.f0, .int .i64 y29.1.f1, .slice A31 y29.1.f2.length c32] 24, Row k24 24 (.slice A31 y29.1.f2.length c32) y29.1.f2, Blk b28 [.int .i64 y23.1.f0, .int .i64 y23.1.f1, .slice A25 y23.1.f2.length c26] 24]) [2, 3, 4, 5, 6] 7 rfl rfl rfl) ?_
          refine TA.not 21 rfl (by kernel_rfl) rfl (PQ.then_ PQ.body) (Wt.no rfl rfl rfl rfl) (fun W hO => (hb349 _ _ (hb364 _ _ hO)).selT (Ls := [Row k24 24 (.slice A3 y1.f2.length c4) y1.f2, Row k36 36 (.slice (some ⟨b14, 0, none⟩) 1 1) ([(⟨5, (⟨#[]⟩ : ByteArray), 0, ([] : List S36)⟩ : S36)] : List S36), Blk b34 [.int .i64 y29.1.f0, .int .i64 y29.1.f1, .slice A31 y29.1.f2.length c32] 24, Row k24 24 (.slice A31 y29.1.f2.length c32) y29.1.f2, Blk b28 [.int .i64 y23.1.f0, .int .i64 y23.1.f1, .slice A25 y23.1.f2.length c26] 24]) [2, 3, 4, 5, 6] 7 rfl rfl rfl) ?_
          refine TA.take 22 rfl (by kernel_rfl) rfl (PQ.then_ PQ.body) rfl (Val.pickN rfl rfl rfl) (fun W hO => (hb349 _ _ (hb364 _ _ hO)).selT (Ls := [Row k24 24 (.slice A3 y1.f2.length c4) y1.f2, Row k36 36 (.slice (some ⟨b14, 0, none⟩) 1 1) ([(⟨5, (⟨#[]⟩ : ByteArray), 0, ([] : List S36)⟩ : S36)] : List S36), Blk b34 [.int .i64 y29.1.f0, .int .i64 y29.1.f1, .slice A31 y29.1.f2.length c32] 24, Row k24 24 (.slice A31 y29.1.f2.length c32) y29.1.f2, Blk b28 [.int .i64 y23.1.f0, .int .i64 y23.1.f1, .slice A25 y23.1.f2.length c26] 24]) [2, 3, 4, 5, 6] 7 rfl rfl rfl) ?_
          refine TA.take 23 rfl (by kernel_rfl) rfl (PQ.then_ PQ.body) rfl (Val.move rfl) (fun W hO => (hb349 _ _ (hb364 _ _ hO)).selT (Ls := [Row k24 24 (.slice A3 y1.f2.length c4) y1.f2, Row k36 36 (.slice (some ⟨b14, 0, none⟩) 1 1) ([(⟨5, (⟨#[]⟩ : ByteArray), 0, ([] : List S36)⟩ : S36)] : List S36), Blk b34 [.int .i64 y29.1.f0, .int .i64 y29.1.f1, .slice A31 y29.1.f2.length c32] 24, Row k24 24 (.slice A31 y29.1.f2.length c32) y29.1.f2, Blk b28 [.int .i64 y23.1.f0, .int .i64 y23.1.f1, .slice A25 y23.1.f2.length c26] 24]) [2, 3, 4, 5, 6] 7 rfl rfl rfl) ?_
          refine TA.not 24 rfl (by kernel_rfl) rfl (PQ.then_ PQ.body) (Wt.no rfl rfl rfl rfl) (fun W hO => (hb349 _ _ (hb364 _ _ hO)).selT (Ls := [Row k24 24 (.slice A3 y1.f2.length c4) y1.f2, Row k36 36 (.slice (some ⟨b14, 0, none⟩) 1 1) ([(⟨5, (⟨#[]⟩ : ByteArray), 0, ([] : List S36)⟩ : S36)] : List S36), Blk b34 [.int .i64 y29.1.f0, .int .i64 y29.1.f1, .slice A31 y29.1.f2.length c32] 24, Row k24 24 (.slice A31 y29.1.f2.length c32) y29.1.f2, Blk b28 [.int .i64 y23.1.f0, .int .i64 y23.1.f1, .slice A25 y23.1.f2.length c26] 24]) [2, 3, 4, 5, 6] 7 rfl rfl rfl) ?_
          refine TA.not 25 rfl (by kernel_rfl) rfl (PQ.then_ PQ.body) (Wt.no rfl rfl rfl rfl) (fun W hO => (hb349 _ _ (hb364 _ _ hO)).selT (Ls := [Row k24 24 (.slice A3 y1.f2.length c4) y1.f2, Row k36 36 (.slice (some ⟨b14, 0, none⟩) 1 1) ([(⟨5, (⟨#[]⟩ : ByteArray), 0, ([] : List S36)⟩ : S36)] : List S36), Blk b34 [.int .i64 y29.1.f0, .int .i64 y29.1.f1, .slice A31 y29.1.f2.length c32] 24, Row k24 24 (.slice A31 y29.1.f2.length c32) y29.1.f2, Blk b28 [.int .i64 y23.1.f0, .int .i64 y23.1.f1, .slice A25 y23.1.f2.length c26] 24]) [2, 3, 4, 5, 6] 7 rfl rfl rfl) ?_
          refine TA.not 26 rfl (by kernel_rfl) rfl (PQ.then_ PQ.body) (Wt.no rfl rfl rfl rfl) (fun W hO => (hb349 _ _ (hb364 _ _ hO)).selT (Ls := [Row k24 24 (.slice A3 y1.f2.length c4) y1.f2, Row k36 36 (.slice (some ⟨b14, 0, none⟩) 1 1) ([(⟨5, (⟨#[]⟩ : ByteArray), 0, ([] : List S36)⟩ : S36)] : List S36), Blk b34 [.int .i64 y29.1.f0, .int .i64 y29.1.f1, .slice A31 y29.1.f2.length c32] 24, Row k24 24 (.slice A31 y29.1.f2.length c32) y29.1.f2, Blk b28 [.int .i64 y23.1.f0, .int .i64 y23.1.f1, .slice A25 y23.1.f2.length c26] 24]) [2, 3, 4, 5, 6] 7 rfl rfl rfl) ?_
          refine TA.not 27 rfl (by kernel_rfl) rfl (PQ.then_ PQ.body) (Wt.no rfl rfl rfl rfl) (fun W hO => (hb349 _ _ (hb364 _ _ hO)).selT (Ls := [Row k24 24 (.slice A3 y1.f2.length c4) y1.f2, Row k36 36 (.slice (some ⟨b14, 0, none⟩) 1 1) ([(⟨5, (⟨#[]⟩ : ByteArray), 0, ([] : List S36)⟩ : S36)] : List S36), Blk b34 [.int .i64 y29.1.f0, .int .i64 y29.1.f1, .slice A31 y29.1.f2.length c32] 24, Row k24 24 (.slice A31 y29.1.f2.length c32) y29.1.f2, Blk b28 [.int .i64 y23.1.f0, .int .i64 y23.1.f1, .slice A25 y23.1.f2.length c26] 24]) [2, 3, 4, 5, 6] 7 rfl rfl rfl) ?_
          refine TA.take 28 rfl (by kernel_rfl) rfl (PQ.then_ PQ.body) rfl (Val.pickN rfl rfl rfl) (fun W hO => (hb349 _ _ (hb364 _ _ hO)).selT (Ls := [Row k24 24 (.slice A3 y1.f2.length c4) y1.f2, Row k36 36 (.slice (some ⟨b14, 0, none⟩) 1 1) ([(⟨5, (⟨#[]⟩ : ByteArray), 0, ([] : List S36)⟩ : S36)] : List S36), Blk b34 [.int .i64 y29.1.f0, .int .i64 y29.1.f1, .slice A31 y29.1.f2.length c32] 24, Row k24 24 (.slice A31 y29.1.f2.length c32) y29.1.f2, Blk b28 [.int .i64 y23.1.f0, .int .i64 y23.1.f1, .slice A25 y23.1.f2.length c26] 24]) [2, 3, 4, 5, 6] 7 rfl rfl rfl) ?_
          refine TA.take 29 rfl (by kernel_rfl) rfl (PQ.then_ PQ.body) rfl (Val.move rfl) (fun W hO => (hb349 _ _ (hb364 _ _ hO)).selT (Ls := [Row k24 24 (.slice A3 y1.f2.length c4) y1.f2, Row k36 36 (.slice (some ⟨b14, 0, none⟩) 1 1) ([(⟨5, (⟨#[]⟩ : ByteArray), 0, ([] : List S36)⟩ : S36)] : List S36), Blk b34 [.int .i64 y29.1.f0, .int .i64 y29.1.f1, .slice A31 y29.1.f2.length c32] 24, Row k24 24 (.slice A31 y29.1.f2.length c32) y29.1.f2, Blk b28 [.int .i64 y23.1.f0, .int .i64 y23.1.f1, .slice A25 y23.1.f2.length c26] 24]) [2, 3, 4, 5, 6] 7 rfl rfl rfl) ?_
          refine TA.not 30 rfl (by kernel_rfl) rfl (PQ.then_ PQ.body) (Wt.no rfl rfl rfl rfl) (fun W hO => (hb349 _ _ (hb364 _ _ hO)).selT (Ls := [Row k24 24 (.slice A3 y1.f2.length c4) y1.f2, Row k36 36 (.slice (some ⟨b14, 0, none⟩) 1 1) ([(⟨5, (⟨#[]⟩ : ByteArray), 0, ([] : List S36)⟩ : S36)] : List S36), Blk b34 [.int .i64 y29.1.f0, .int .i64 y29.1.f1, .slice A31 y29.1.f2.length c32] 24, Row k24 24 (.slice A31 y29.1.f2.length c32) y29.1.f2, Blk b28 [.int .i64 y23.1.f0, .int .i64 y23.1.f1, .slice A25 y23.1.f2.length c26] 24]) [2, 3, 4, 5, 6] 7 rfl rfl rfl) ?_
          refine TA.not 31 rfl (by kernel_rfl) rfl (PQ.then_ PQ.body) (Wt.no rfl rfl rfl rfl) (fun W hO => (hb349 _ _ (hb364 _ _ hO)).selT (Ls := [Row k24 24 (.slice A3 y1.f2.length c4) y1.f2, Row k36 36 (.slice (some ⟨b14, 0, none⟩) 1 1) ([(⟨5, (⟨#[]⟩ : ByteArray), 0, ([] : List S36)⟩ : S36)] : List S36), Blk b34 [.int .i64 y29.1.f0, .int .i64 y29.1.f1, .slice A31 y29.1.f2.length c32] 24, Row k24 24 (.slice A31 y29.1.f2.length c32) y29.1.f2, Blk b28 [.int .i64 y23.1.f0, .int .i64 y23.1.f1, .slice A25 y23.1.f2.length c26] 24]) [2, 3, 4, 5, 6] 7 rfl rfl rfl) ?_
          refine TA.take 32 rfl (by kernel_rfl) rfl (PQ.then_ PQ.body) rfl (Val.pickN rfl rfl rfl) (fun W hO => (hb349 _ _ (hb364 _ _ hO)).selT (Ls := [Row k24 24 (.slice A3 y1.f2.length c4) y1.f2, Row k36 36 (.slice (some ⟨b14, 0, none⟩) 1 1) ([(⟨5, (⟨#[]⟩ : ByteArray), 0, ([] : List S36)⟩ : S36)] : List S36), Blk b34 [.int .i64 y29.1.f0, .int .i64 y29.1.f1, .slice A31 y29.1.f2.length c32] 24, Row k24 24 (.slice A31 y29.1.f2.length c32) y29.1.f2, Blk b28 [.int .i64 y23.1.f0, .int .i64 y23.1.f1, .slice A25 y23.1.f2.length c26] 24]) [2, 3, 4, 5, 6] 7 rfl rfl rfl) ?_
          refine TA.take 33 rfl (by kernel_rfl) rfl (PQ.then_ PQ.body) rfl (Val.move rfl) (fun W hO => (hb349 _ _ (hb364 _ _ hO)).selT (Ls := [Row k24 24 (.slice A3 y1.f2.length c4) y1.f2, Row k36 36 (.slice (some ⟨b14, 0, none⟩) 1 1) ([(⟨5, (⟨#[]⟩ : ByteArray), 0, ([] : List S36)⟩ : S36)] : List S36), Blk b34 [.int .i64 y29.1.f0, .int .i64 y29.1.f1, .slice A31 y29.1.f2.length c32] 24, Row k24 24 (.slice A31 y29.1.f2.length c32) y29.1.f2, Blk b28 [.int .i64 y23.1.f0, .int .i64 y23.1.f1, .slice A25 y23.1.f2.length c26] 24]) [2, 3, 4, 5, 6] 7 rfl rfl rfl) ?_
          refine TA.not 34 rfl (by kernel_rfl) rfl (PQ.then_ PQ.body) (Wt.no rfl rfl rfl rfl) (fun W hO => (hb349 _ _ (hb364 _ _ hO)).selT (Ls := [Row k24 24 (.slice A3 y1.f2.length c4) y1.f2, Row k36 36 (.slice (some ⟨b14, 0, none⟩) 1 1) ([(⟨5, (⟨#[]⟩ : ByteArray), 0, ([] : List S36)⟩ : S36)] : List S36), Blk b34 [.int .i64 y29.1.f0, .int .i64 y29.1.f1, .slice A31 y29.1.f2.length c32] 24, Row k24 24 (.slice A31 y29.1.f2.length c32) y29.1.f2, Blk b28 [.int .i64 y23.1.f0, .int .i64 y23.1.f1, .slice A25 y23.1.f2.length c26] 24]) [2, 3, 4, 5, 6] 7 rfl rfl rfl) ?_
          refine TA.not 35 rfl (by kernel_rfl) rfl (PQ.then_ PQ.body) (Wt.no rfl rfl rfl rfl) (fun W hO => (hb349 _ _ (hb364 _ _ hO)).selT (Ls := [Row k24 24 (.slice A3 y1.f2.length c4) y1.f2, Row k36 36 (.slice (some ⟨b14, 0, none⟩) 1 1) ([(⟨5, (⟨#[]⟩ : ByteArray), 0, ([] : List S36)⟩ : S36)] : List S36), Blk b34 [.int .i64 y29.1.f0, .int .i64 y29.1.f1, .slice A31 y29.1.f2.length c32] 24, Row k24 24 (.slice A31 y29.1.f2.length c32) y29.1.f2, Blk b28 [.int .i64 y23.1.f0, .int .i64 y23.1.f1, .slice A25 y23.1.f2.length c26] 24]) [2, 3, 4, 5, 6] 7 rfl rfl rfl) ?_
          refine TA.take 36 rfl (by kernel_rfl) rfl (PQ.then_ PQ.body) rfl (Val.pickN rfl rfl rfl) (fun W hO => (hb349 _ _ (hb364 _ _ hO)).selT (Ls := [Row k24 24 (.slice A3 y1.f2.length c4) y1.f2, Row k36 36 (.slice (some ⟨b14, 0, none⟩) 1 1) ([(⟨5, (⟨#[]⟩ : ByteArray), 0, ([] : List S36)⟩ : S36)] : List S36), Blk b34 [.int .i64 y29.1.f0, .int .i64 y29.1.f1, .slice A31 y29.1.f2.length c32] 24, Row k24 24 (.slice A31 y29.1.f2.length c32) y29.1.f2, Blk b28 [.int .i64 y23.1.f0, .int .i64 y23.1.f1, .slice A25 y23.1.f2.length c26] 24]) [2, 3, 4, 5, 6] 7 rfl rfl rfl) ?_
          refine TA.take 37 rfl (by kernel_rfl) rfl (PQ.then_ PQ.body) rfl (Val.move rfl) (fun W hO => (hb349 _ _ (hb364 _ _ hO)).selT (Ls := [Row k24 24 (.slice A3 y1.f2.length c4) y1.f2, Row k36 36 (.slice (some ⟨b14, 0, none⟩) 1 1) ([(⟨5, (⟨#[]⟩ : ByteArray), 0, ([] : List S36)⟩ : S36)] : List S36), Blk b34 [.int .i64 y29.1.f0, .int .i64 y29.1.f1, .slice A31 y29.1.f2.length c32] 24, Row k24 24 (.slice A31 y29.1.f2.length c32) y29.1.f2, Blk b28 [.int .i64 y23.1.f0, .int .i64 y23.1.f1, .slice A25 y23.1.f2.length c26] 24]) [2, 3, 4, 5, 6] 7 rfl rfl rfl) ?_
          refine TA.not 38 rfl (by kernel_rfl) rfl (PQ.then_ PQ.body) (Wt.no rfl rfl rfl rfl) (fun W hO => (hb349 _ _ (hb364 _ _ hO)).selT (Ls := [Row k24 24 (.slice A3 y1.f2.length c4) y1.f2, Row k36 36 (.slice (some ⟨b14, 0, none⟩) 1 1) ([(⟨5, (⟨#[]⟩ : ByteArray), 0, ([] : List S36)⟩ : S36)] : List S36), Blk b34 [.int .i64 y29.1.f0, .int .i64 y29.1.f1, .slice A31 y29.1.f2.length c32] 24, Row k24 24 (.slice A31 y29.1.f2.length c32) y29.1.f2, Blk b28 [.int .i64 y23.1.f0, .int .i64 y23.1.f1, .slice A25 y23.1.f2.length c26] 24]) [2, 3, 4, 5, 6] 7 rfl rfl rfl) ?_
          refine TA.not 39 rfl (by kernel_rfl) rfl (PQ.then_ PQ.body) (Wt.no rfl rfl rfl rfl) (fun W hO => (hb349 _ _ (hb364 _ _ hO)).selT (Ls := [Row k24 24 (.slice A3 y1.f2.length c4) y1.f2, Row k36 36 (.slice (some ⟨b14, 0, none⟩) 1 1) ([(⟨5, (⟨#[]⟩ : ByteArray), 0, ([] : List S36)⟩ : S36)] : List S36), Blk b34 [.int .i64 y29.1.f0, .int .i64 y29.1.f1, .slice A31 y29.1.f2.length c32] 24, Row k24 24 (.slice A31 y29.1.f2.length c32) y29.1.f2, Blk b28 [.int .i64 y23.1.f0, .int .i64 y23.1.f1, .slice A25 y23.1.f2.length c26] 24]) [2, 3, 4, 5, 6] 7 rfl rfl rfl) ?_
          refine TA.not 40 rfl (by kernel_rfl) rfl (PQ.then_ PQ.body) (Wt.no rfl rfl rfl rfl) (fun W hO => (hb349 _ _ (hb364 _ _ hO)).selT (Ls := [Row k24 24 (.slice A3 y1.f2.length c4) y1.f2, Row k36 36 (.slice (some ⟨b14, 0, none⟩) 1 1) ([(⟨5, (⟨#[]⟩ : ByteArray), 0, ([] : List S36)⟩ : S36)] : List S36), Blk b34 [.int .i64 y29.1.f0, .int .i64 y29.1.f1, .slice A31 y29.1.f2.length c32] 24, Row k24 24 (.slice A31 y29.1.f2.length c32) y29.1.f2, Blk b28 [.int .i64 y23.1.f0, .int .i64 y23.1.f1, .slice A25 y23.1.f2.length c26] 24]) [2, 3, 4, 5, 6] 7 rfl rfl rfl) ?_
          refine TA.take 41 rfl (by kernel_rfl) rfl (PQ.then_ PQ.body) rfl (Val.pickN rfl rfl rfl) (fun W hO => (hb349 _ _ (hb364 _ _ hO)).selT (Ls := [Row k24 24 (.slice A3 y1.f2.length c4) y1.f2, Row k36 36 (.slice (some ⟨b14, 0, none⟩) 1 1) ([(⟨5, (⟨#[]⟩ : ByteArray), 0, ([] : List S36)⟩ : S36)] : List S36), Blk b34 [.int .i64 y29.1.f0, .int .i64 y29.1.f1, .slice A31 y29.1.f2.length c32] 24, Row k24 24 (.slice A31 y29.1.f2.length c32) y29.1.f2, Blk b28 [.int .i64 y23.1.f0, .int .i64 y23.1.f1, .slice A25 y23.1.f2.length c26] 24]) [2, 3, 4, 5, 6] 7 rfl rfl rfl) ?_
          refine TA.take 42 rfl (by kernel_rfl) rfl (PQ.then_ PQ.body) rfl (Val.assign rfl) (fun W hO => (hb349 _ _ (hb364 _ _ hO)).selT (Ls := [Row k24 24 (.slice A3 y1.f2.length c4) y1.f2, Row k36 36 (.slice (some ⟨b14, 0, none⟩) 1 1) ([(⟨5, (⟨#[]⟩ : ByteArray), 0, ([] : List S36)⟩ : S36)] : List S36), Blk b34 [.int .i64 y29.1.f0, .int .i64 y29.1.f1, .slice A31 y29.1.f2.length c32] 24, Row k24 24 (.slice A31 y29.1.f2.length c32) y29.1.f2, Blk b28 [.int .i64 y23.1.f0, .int .i64 y23.1.f1, .slice A25 y23.1.f2.length c26] 24]) [2, 3, 4, 5, 6] 7 rfl rfl rfl) ?_
          refine TA.done (by kernel_rfl) ?_
          refine TQ.then_ ?_
          refine TC.ret ?_
          refine TQ.back hb364 ?_
          refine TQ.back hb349 ?_
          refine TQ.back hb338 ?_
          obtain rfl := Option.some.inj h
          exact TQ.fin (.inl rfl) rfl Tryd.results7 (.tmp rfl .nil) rfl (FRel.mk (Ls := []) [] 8 (Gd.le.refl _) rfl rfl rfl ⟨rfl, rfl, rfl⟩)
      · have hk432 : decide (y12.1 = 4) = false := decide_eq_false hg371
        refine TA.not 12 rfl (by kernel_rfl) rfl (PQ.then_ PQ.body) (Wt.no rfl rfl rfl hk432) (fun W hO => (hb349 _ _ (hb364 _ _ hO)).selT (Ls := [Row k24 24 (.slice A3 y1.f2.length c4) y1.f2, Row k36 36 (.slice (some ⟨b14, 0, none⟩) 1 1) ([(⟨5, (⟨#[]⟩ : ByteArray), 0, ([] : List S36)⟩ : S36)] : List S36), Blk b34 [.int .i64 y29.1.f0, .int .i64 y29.1.f1, .slice A31 y29.1.f2.length c32] 24, Row k24 24 (.slice A31 y29.1.f2.length c32) y29.1.f2, Blk b28 [.int .i64 y23.1.f0, .int .i64 y23.1.f1, .slice A25 y23.1.f2.length c26] 24]) [2, 3, 4, 5, 6] 7 rfl rfl rfl) ?_
        refine TA.take 13 rfl (by kernel_rfl) rfl (PQ.then_ PQ.body) rfl (Val.pickN rfl hk432 rfl) (fun W hO => (hb349 _ _ (hb364 _ _ hO)).selT (Ls := [Row k24 24 (.slice A3 y1.f2.length c4) y1.f2, Row k36 36 (.slice (some ⟨b14, 0, none⟩) 1 1) ([(⟨5, (⟨#[]⟩ : ByteArray), 0, ([] : List S36)⟩ : S36)] : List S36), Blk b34 [.int .i64 y29.1.f0, .int .i64 y29.1.f1, .slice A31 y29.1.f2.length c32] 24, Row k24 24 (.slice A31 y29.1.f2.length c32) y29.1.f2, Blk b28 [.int .i64 y23.1.f0, .int .i64 y23.1.f1, .slice A25 y23.1.f2.length c26] 24]) [2, 3, 4, 5, 6] 7 rfl rfl rfl) ?_
        refine TA.take 14 rfl (by kernel_rfl) rfl (PQ.then_ PQ.body) rfl (Val.move rfl) (fun W hO => (hb349 _ _ (hb364 _ _ hO)).selT (Ls := [Row k24 24 (.slice A3 y1.f2.length c4) y1.f2, Row k36 36 (.slice (some ⟨b14, 0, none⟩) 1 1) ([(⟨5, (⟨#[]⟩ : ByteArray), 0, ([] : List S36)⟩ : S36)] : List S36), Blk b34 [.int .i64 y29.1.f0, .int .i64 y29.1.f1, .slice A31 y29.1.f2.length c32] 24, Row k24 24 (.slice A31 y29.1.f2.length c32) y29.1.f2, Blk b28 [.int .i64 y23.1.f0, .int .i64 y23.1.f1, .slice A25 y23.1.f2.length c26] 24]) [2, 3, 4, 5, 6] 7 rfl rfl rfl) ?_
        refine TA.not 15 rfl (by kernel_rfl) rfl (PQ.then_ PQ.body) (Wt.no rfl rfl rfl rfl) (fun W hO => (hb349 _ _ (hb364 _ _ hO)).selT (Ls := [Row k24 24 (.slice A3 y1.f2.length c4) y1.f2, Row k36 36 (.slice (some ⟨b14, 0, none⟩) 1 1) ([(⟨5, (⟨#[]⟩ : ByteArray), 0, ([] : List S36)⟩ : S36)] : List S36), Blk b34 [.int .i64 y29.1.f0, .int .i64 y29.1.f1, .slice A31 y29.1.f2.length c32] 24, Row k24 24 (.slice A31 y29.1.f2.length c32) y29.1.f2, Blk b28 [.int .i64 y23.1.f0, .int .i64 y23.1.f1, .slice A25 y23.1.f2.length c26] 24]) [2, 3, 4, 5, 6] 7 rfl rfl rfl) ?_
        refine TA.not 16 rfl (by kernel_rfl) rfl (PQ.then_ PQ.body) (Wt.no rfl rfl rfl rfl) (fun W hO => (hb349 _ _ (hb364 _ _ hO)).selT (Ls := [Row k24 24 (.slice A3 y1.f2.length c4) y1.f2, Row k36 36 (.slice (some ⟨b14, 0, none⟩) 1 1) ([(⟨5, (⟨#[]⟩ : ByteArray), 0, ([] : List S36)⟩ : S36)] : List S36), Blk b34 [.int .i64 y29.1.f0, .int .i64 y29.1.f1, .slice A31 y29.1.f2.length c32] 24, Row k24 24 (.slice A31 y29.1.f2.length c32) y29.1.f2, Blk b28 [.int .i64 y23.1.f0, .int .i64 y23.1.f1, .slice A25 y23.1.f2.length c26] 24]) [2, 3, 4, 5, 6] 7 rfl rfl rfl) ?_
        refine TA.not 17 rfl (by kernel_rfl) rfl (PQ.then_ PQ.body) (Wt.no rfl rfl rfl rfl) (fun W hO => (hb349 _ _ (hb364 _ _ hO)).selT (Ls := [Row k24 24 (.slice A3 y1.f2.length c4) y1.f2, Row k36 36 (.slice (some ⟨b14, 0, none⟩) 1 1) ([(⟨5, (⟨#[]⟩ : ByteArray), 0, ([] : List S36)⟩ : S36)] : List S36), Blk b34 [.int .i64 y29.1.f0, .int .i64 y29.1.f1, .slice A31 y29.1.f2.length c32] 24, Row k24 24 (.slice A31 y29.1.f2.length c32) y29.1.f2, Blk b28 [.int .i64 y23.1.f0, .int .i64 y23.1.f1, .slice A25 y23.1.f2.length c26] 24]) [2, 3, 4, 5, 6] 7 rfl rfl rfl) ?_
        refine TA.take 18 rfl (by kernel_rfl) rfl (PQ.then_ PQ.body) rfl (Val.pickN rfl rfl rfl) (fun W hO => (hb349 _ _ (hb364 _ _ hO)).selT (Ls := [Row k24 24 (.slice A3 y1.f2.length c4) y1.f2, Row k36 36 (.slice (some ⟨b14, 0, none⟩) 1 1) ([(⟨5, (⟨#[]⟩ : ByteArray), 0, ([] : List S36)⟩ : S36)] : List S36), Blk b34 [.int .i64 y29.1.f0, .int .i64 y29.1.f1, .slice A31 y29.1.f2.length c32] 24, Row k24 24 (.slice A31 y29.1.f2.length c32) y29.1.f2, Blk b28 [.int .i64 y23.1.f0, .int .i64 y23.1.f1, .slice A25 y23.1.f2.length c26] 24]) [2, 3, 4, 5, 6] 7 rfl rfl rfl) ?_
        refine TA.take 19 rfl (by kernel_rfl) rfl (PQ.then_ PQ.body) rfl (Val.move rfl) (fun W hO => (hb349 _ _ (hb364 _ _ hO)).selT (Ls := [Row k24 24 (.slice A3 y1.f2.length c4) y1.f2, Row k36 36 (.slice (some ⟨b14, 0, none⟩) 1 1) ([(⟨5, (⟨#[]⟩ : ByteArray), 0, ([] : List S36)⟩ : S36)] : List S36), Blk b34 [.int .i64 y29.1.f0, .int .i64 y29.1.f1, .slice A31 y29.1.f2.length c32] 24, Row k24 24 (.slice A31 y29.1.f2.length c32) y29.1.f2, Blk b28 [.int .i64 y23.1.f0, .int .i64 y23.1.f1, .slice A25 y23.1.f2.length c26] 24]) [2, 3, 4, 5, 6] 7 rfl rfl rfl) ?_
        refine TA.not 20 rfl (by kernel_rfl) rfl (PQ.then_ PQ.body) (Wt.no rfl rfl rfl rfl) (fun W hO => (hb349 _ _ (hb364 _ _ hO)).selT (Ls := [Row k24 24 (.slice A3 y1.f2.length c4) y1.f2, Row k36 36 (.slice (some ⟨b14, 0, none⟩) 1 1) ([(⟨5, (⟨#[]⟩ : ByteArray), 0, ([] : List S36)⟩ : S36)] : List S36), Blk b34 [.int .i64 y29.1.f0, .int .i64 y29.1.f1, .slice A31 y29.1.f2.length c32] 24, Row k24 24 (.slice A31 y29.1.f2.length c32) y29.1.f2, Blk b28 [.int .i64 y23.1.f0, .int .i64 y23.1.f1, .slice A25 y23.1.f2.length c26] 24]) [2, 3, 4, 5, 6] 7 rfl rfl rfl) ?_
        refine TA.not 21 rfl (by kernel_rfl) rfl (PQ.then_ PQ.body) (Wt.no rfl rfl rfl rfl) (fun W hO => (hb349 _ _ (hb364 _ _ hO)).selT (Ls := [Row k24 24 (.slice A3 y1.f2.length c4) y1.f2, Row k36 36 (.slice (some ⟨b14, 0, none⟩) 1 1) ([(⟨5, (⟨#[]⟩ : ByteArray), 0, ([] : List S36)⟩ : S36)] : List S36), Blk b34 [.int .i64 y29.1.f0, .int .i64 y29.1.f1, .slice A31 y29.1.f2.length c32] 24, Row k24 24 (.slice A31 y29.1.f2.length c32) y29.1.f2, Blk b28 [.int .i64 y23.1.f0, .int .i64 y23.1.f1, .slice A25 y23.1.f2.length c26] 24]) [2, 3, 4, 5, 6] 7 rfl rfl rfl) ?_
        refine TA.take 22 rfl (by kernel_rfl) rfl (PQ.then_ PQ.body) rfl (Val.pickN rfl rfl rfl) (fun W hO => (hb349 _ _ (hb364 _ _ hO)).selT (Ls := [Row k24 24 (.slice A3 y1.f2.length c4) y1.f2, Row k36 36 (.slice (some ⟨b14, 0, none⟩) 1 1) ([(⟨5, (⟨#[]⟩ : ByteArray), 0, ([] : List S36)⟩ : S36)] : List S36), Blk b34 [.int .i64 y29.1.f0, .int .i64 y29.1.f1, .slice A31 y29.1.f2.length c32] 24, Row k24 24 (.slice A31 y29.1.f2.length c32) y29.1.f2, Blk b28 [.int .i64 y23.1.f0, .int .i64 y23.1.f1, .slice A25 y23.1.f2.length c26] 24]) [2, 3, 4, 5, 6] 7 rfl rfl rfl) ?_
        refine TA.take 23 rfl (by kernel_rfl) rfl (PQ.then_ PQ.body) rfl (Val.move rfl) (fun W hO => (hb349 _ _ (hb364 _ _ hO)).selT (Ls := [Row k24 24 (.slice A3 y1.f2.length c4) y1.f2, Row k36 36 (.slice (some ⟨b14, 0, none⟩) 1 1) ([(⟨5, (⟨#[]⟩ : ByteArray), 0, ([] : List S36)⟩ : S36)] : List S36), Blk b34 [.int .i64 y29.1.f0, .int .i64 y29.1.f1, .slice A31 y29.1.f2.length c32] 24, Row k24 24 (.slice A31 y29.1.f2.length c32) y29.1.f2, Blk b28 [.int .i64 y23.1.f0, .int .i64 y23.1.f1, .slice A25 y23.1.f2.length c26] 24]) [2, 3, 4, 5, 6] 7 rfl rfl rfl) ?_
        refine TA.not 24 rfl (by kernel_rfl) rfl (PQ.then_ PQ.body) (Wt.no rfl rfl rfl rfl) (fun W hO => (hb349 _ _ (hb364 _ _ hO)).selT (Ls := [Row k24 24 (.slice A3 y1.f2.length c4) y1.f2, Row k36 36 (.slice (some ⟨b14, 0, none⟩) 1 1) ([(⟨5, (⟨#[]⟩ : ByteArray), 0, ([] : List S36)⟩ : S36)] : List S36), Blk b34 [.int .i64 y29.1.f0, .int .i64 y29.1.f1, .slice A31 y29.1.f2.length c32] 24, Row k24 24 (.slice A31 y29.1.f2.length c32) y29.1.f2, Blk b28 [.int .i64 y23.1.f0, .int .i64 y23.1.f1, .slice A25 y23.1.f2.length c26] 24]) [2, 3, 4, 5, 6] 7 rfl rfl rfl) ?_
        refine TA.not 25 rfl (by kernel_rfl) rfl (PQ.then_ PQ.body) (Wt.no rfl rfl rfl rfl) (fun W hO => (hb349 _ _ (hb364 _ _ hO)).selT (Ls := [Row k24 24 (.slice A3 y1.f2.length c4) y1.f2, Row k36 36 (.slice (some ⟨b14, 0, none⟩) 1 1) ([(⟨5, (⟨#[]⟩ : ByteArray), 0, ([] : List S36)⟩ : S36)] : List S36), Blk b34 [.int .i64 y29.1.f0, .int .i64 y29.1.f1, .slice A31 y29.1.f2.length c32] 24, Row k24 24 (.slice A31 y29.1.f2.length c32) y29.1.f2, Blk b28 [.int .i64 y23.1.f0, .int .i64 y23.1.f1, .slice A25 y23.1.f2.length c26] 24]) [2, 3, 4, 5, 6] 7 rfl rfl rfl) ?_
        refine TA.not 26 rfl (by kernel_rfl) rfl (PQ.then_ PQ.body) (Wt.no rfl rfl rfl rfl) (fun W hO => (hb349 _ _ (hb364 _ _ hO)).selT (Ls := [Row k24 24 (.slice A3 y1.f2.length c4) y1.f2, Row k36 36 (.slice (some ⟨b14, 0, none⟩) 1 1) ([(⟨5, (⟨#[]⟩ : ByteArray), 0, ([] : List S36)⟩ : S36)] : List S36), Blk b34 [.int .i64 y29.1.f0, .int .i64 y29.1.f1, .slice A31 y29.1.f2.length c32] 24, Row k24 24 (.slice A31 y29.1.f2.length c32) y29.1.f2, Blk b28 [.int .i64 y23.1.f0, .int .i64 y23.1.f1, .slice A25 y23.1.f2.length c26] 24]) [2, 3, 4, 5, 6] 7 rfl rfl rfl) ?_
        refine TA.not 27 rfl (by kernel_rfl) rfl (PQ.then_ PQ.body) (Wt.no rfl rfl rfl rfl) (fun W hO => (hb349 _ _ (hb364 _ _ hO)).selT (Ls := [Row k24 24 (.slice A3 y1.f2.length c4) y1.f2, Row k36 36 (.slice (some ⟨b14, 0, none⟩) 1 1) ([(⟨5, (⟨#[]⟩ : ByteArray), 0, ([] : List S36)⟩ : S36)] : List S36), Blk b34 [.int .i64 y29.1.f0, .int .i64 y29.1.f1, .slice A31 y29.1.f2.length c32] 24, Row k24 24 (.slice A31 y29.1.f2.length c32) y29.1.f2, Blk b28 [.int .i64 y23.1.f0, .int .i64 y23.1.f1, .slice A25 y23.1.f2.length c26] 24]) [2, 3, 4, 5, 6] 7 rfl rfl rfl) ?_
        refine TA.take 28 rfl (by kernel_rfl) rfl (PQ.then_ PQ.body) rfl (Val.pickN rfl rfl rfl) (fun W hO => (hb349 _ _ (hb364 _ _ hO)).selT (Ls := [Row k24 24 (.slice A3 y1.f2.length c4) y1.f2, Row k36 36 (.slice (some ⟨b14, 0, none⟩) 1 1) ([(⟨5, (⟨#[]⟩ : ByteArray), 0, ([] : List S36)⟩ : S36)] : List S36), Blk b34 [.int .i64 y29.1.f0, .int .i64 y29.1.f1, .slice A31 y29.1.f2.length c32] 24, Row k24 24 (.slice A31 y29.1.f2.length c32) y29.1.f2, Blk b28 [.int .i64 y23.1.f0, .int .i64 y23.1.f1, .slice A25 y23.1.f2.length c26] 24]) [2, 3, 4, 5, 6] 7 rfl rfl rfl) ?_
        refine TA.take 29 rfl (by kernel_rfl) rfl (PQ.then_ PQ.body) rfl (Val.move rfl) (fun W hO => (hb349 _ _ (hb364 _ _ hO)).selT (Ls := [Row k24 24 (.slice A3 y1.f2.length c4) y1.f2, Row k36 36 (.slice (some ⟨b14, 0, none⟩) 1 1) ([(⟨5, (⟨#[]⟩ : ByteArray), 0, ([] : List S36)⟩ : S36)] : List S36), Blk b34 [.int .i64 y29.1.f0, .int .i64 y29.1.f1, .slice A31 y29.1.f2.length c32] 24, Row k24 24 (.slice A31 y29.1.f2.length c32) y29.1.f2, Blk b28 [.int .i64 y23.1.f0, .int .i64 y23.1.f1, .slice A25 y23.1.f2.length c26] 24]) [2, 3, 4, 5, 6] 7 rfl rfl rfl) ?_
        refine TA.not 30 rfl (by kernel_rfl) rfl (PQ.then_ PQ.body) (Wt.no rfl rfl rfl rfl) (fun W hO => (hb349 _ _ (hb364 _ _ hO)).selT (Ls := [Row k24 24 (.slice A3 y1.f2.length c4) y1.f2, Row k36 36 (.slice (some ⟨b14, 0, none⟩) 1 1) ([(⟨5, (⟨#[]⟩ : ByteArray), 0, ([] : List S36)⟩ : S36)] : List S36), Blk b34 [.int .i64 y29.1.f0, .int .i64 y29.1.f1, .slice A31 y29.1.f2.length c32] 24, Row k24 24 (.slice A31 y29.1.f2.length c32) y29.1.f2, Blk b28 [.int .i64 y23.1.f0, .int .i64 y23.1.f1, .slice A25 y23.1.f2.length c26] 24]) [2, 3, 4, 5, 6] 7 rfl rfl rfl) ?_
        refine TA.not 31 rfl (by kernel_rfl) rfl (PQ.then_ PQ.body) (Wt.no rfl rfl rfl rfl) (fun W hO => (hb349 _ _ (hb364 _ _ hO)).selT (Ls := [Row k24 24 (.slice A3 y1.f2.length c4) y1.f2, Row k36 36 (.slice (some ⟨b14, 0, none⟩) 1 1) ([(⟨5, (⟨#[]⟩ : ByteArray), 0, ([] : List S36)⟩ : S36)] : List S36), Blk b34 [.int .i64 y29.1.f0, .int .i64 y29.1.f1, .slice A31 y29.1.f2.length c32] 24, Row k24 24 (.slice A31 y29.1.f2.length c32) y29.1.f2, Blk b28 [.int .i64 y23.1.f0, .int .i64 y23.1.f1, .slice A25 y23.1.f2.length c26] 24]) [2, 3, 4, 5, 6] 7 rfl rfl rfl) ?_
        refine TA.take 32 rfl (by kernel_rfl) rfl (PQ.then_ PQ.body) rfl (Val.pickN rfl rfl rfl) (fun W hO => (hb349 _ _ (hb364 _ _ hO)).selT (Ls := [Row k24 24 (.slice A3 y1.f2.length c4) y1.f2, Row k36 36 (.slice (some ⟨b14, 0, none⟩) 1 1) ([(⟨5, (⟨#[]⟩ : ByteArray), 0, ([] : List S36)⟩ : S36)] : List S36), Blk b34 [.int .i64 y29.1.f0, .int .i64 y29.1.f1, .slice A31 y29.1.f2.length c32] 24, Row k24 24 (.slice A31 y29.1.f2.length c32) y29.1.f2, Blk b28 [.int .i64 y23.1.f0, .int .i64 y23.1.f1, .slice A25 y23.1.f2.length c26] 24]) [2, 3, 4, 5, 6] 7 rfl rfl rfl) ?_
        refine TA.take 33 rfl (by kernel_rfl) rfl (PQ.then_ PQ.body) rfl (Val.move rfl) (fun W hO => (hb349 _ _ (hb364 _ _ hO)).selT (Ls := [Row k24 24 (.slice A3 y1.f2.length c4) y1.f2, Row k36 36 (.slice (some ⟨b14, 0, none⟩) 1 1) ([(⟨5, (⟨#[]⟩ : ByteArray), 0, ([] : List S36)⟩ : S36)] : List S36), Blk b34 [.int .i64 y29.1.f0, .int .i64 y29.1.f1, .slice A31 y29.1.f2.length c32] 24, Row k24 24 (.slice A31 y29.1.f2.length c32) y29.1.f2, Blk b28 [.int .i64 y23.1.f0, .int .i64 y23.1.f1, .slice A25 y23.1.f2.length c26] 24]) [2, 3, 4, 5, 6] 7 rfl rfl rfl) ?_
        refine TA.not 34 rfl (by kernel_rfl) rfl (PQ.then_ PQ.body) (Wt.no rfl rfl rfl rfl) (fun W hO => (hb349 _ _ (hb364 _ _ hO)).selT (Ls := [Row k24 24 (.slice A3 y1.f2.length c4) y1.f2, Row k36 36 (.slice (some ⟨b14, 0, none⟩) 1 1) ([(⟨5, (⟨#[]⟩ : ByteArray), 0, ([] : List S36)⟩ : S36)] : List S36), Blk b34 [.int .i64 y29.1.f0, .int .i64 y29.1.f1, .slice A31 y29.1.f2.length c32] 24, Row k24 24 (.slice A31 y29.1.f2.length c32) y29.1.f2, Blk b28 [.int .i64 y23.1.f0, .int .i64 y23.1.f1, .slice A25 y23.1.f2.length c26] 24]) [2, 3, 4, 5, 6] 7 rfl rfl rfl) ?_
        refine TA.not 35 rfl (by kernel_rfl) rfl (PQ.then_ PQ.body) (Wt.no rfl rfl rfl rfl) (fun W hO => (hb349 _ _ (hb364 _ _ hO)).selT (Ls := [Row k24 24 (.slice A3 y1.f2.length c4) y1.f2, Row k36 36 (.slice (some ⟨b14, 0, none⟩) 1 1) ([(⟨5, (⟨#[]⟩ : ByteArray), 0, ([] : List S36)⟩ : S36)] : List S36), Blk b34 [.int .i64 y29.1.f0, .int .i64 y29.1.f1, .slice A31 y29.1.f2.length c32] 24, Row k24 24 (.slice A31 y29.1.f2.length c32) y29.1.f2, Blk b28 [.int .i64 y23.1.f0, .int .i64 y23.1.f1, .slice A25 y23.1.f2.length c26] 24]) [2, 3, 4, 5, 6] 7 rfl rfl rfl) ?_
        refine TA.take 36 rfl (by kernel_rfl) rfl (PQ.then_ PQ.body) rfl (Val.pickN rfl rfl rfl) (fun W hO => (hb349 _ _ (hb364 _ _ hO)).selT (Ls := [Row k24 24 (.slice A3 y1.f2.length c4) y1.f2, Row k36 36 (.slice (some ⟨b14, 0, none⟩) 1 1) ([(⟨5, (⟨#[]⟩ : ByteArray), 0, ([] : List S36)⟩ : S36)] : List S36), Blk b34 [.int .i64 y29.1.f0, .int .i64 y29.1.f1, .slice A31 y29.1.f2.length c32] 24, Row k24 24 (.slice A31 y29.1.f2.length c32) y29.1.f2, Blk b28 [.int .i64 y23.1.f0, .int .i64 y23.1.f1, .slice A25 y23.1.f2.length c26] 24]) [2, 3, 4, 5, 6] 7 rfl rfl rfl) ?_
        refine TA.take 37 rfl (by kernel_rfl) rfl (PQ.then_ PQ.body) rfl (Val.move rfl) (fun W hO => (hb349 _ _ (hb364 _ _ hO)).selT (Ls := [Row k24 24 (.slice A3 y1.f2.length c4) y1.f2, Row k36 36 (.slice (some ⟨b14, 0, none⟩) 1 1) ([(⟨5, (⟨#[]⟩ : ByteArray), 0, ([] : List S36)⟩ : S36)] : List S36), Blk b34 [.int .i64 y29.1.f0, .int .i64 y29.1.f1, .slice A31 y29.1.f2.length c32] 24, Row k24 24 (.slice A31 y29.1.f2.length c32) y29.1.f2, Blk b28 [.int .i64 y23.1.f0, .int .i64 y23.1.f1, .slice A25 y23.1.f2.length c26] 24]) [2, 3, 4, 5, 6] 7 rfl rfl rfl) ?_
        refine TA.not 38 rfl (by kernel_rfl) rfl (PQ.then_ PQ.body) (Wt.no rfl rfl rfl rfl) (fun W hO => (hb349 _ _ (hb364 _ _ hO)).selT (Ls := [Row k24 24 (.slice A3 y1.f2.length c4) y1.f2, Row k36 36 (.slice (some ⟨b14, 0, none⟩) 1 1) ([(⟨5, (⟨#[]⟩ : ByteArray), 0, ([] : List S36)⟩ : S36)] : List S36), Blk b34 [.int .i64 y29.1.f0, .int .i64 y29.1.f1, .slice A31 y29.1.f2.length c32] 24, Row k24 24 (.slice A31 y29.1.f2.length c32) y29.1.f2, Blk b28 [.int .i64 y23.1.f0, .int .i64 y23.1.f1, .slice A25 y23.1.f2.length c26] 24]) [2, 3, 4, 5, 6] 7 rfl rfl rfl) ?_
        refine TA.not 39 rfl (by kernel_rfl) rfl (PQ.then_ PQ.body) (Wt.no rfl rfl rfl rfl) (fun W hO => (hb349 _ _ (hb364 _ _ hO)).selT (Ls := [Row k24 24 (.slice A3 y1.f2.length c4) y1.f2, Row k36 36 (.slice (some ⟨b14, 0, none⟩) 1 1) ([(⟨5, (⟨#[]⟩ : ByteArray), 0, ([] : List S36)⟩ : S36)] : List S36), Blk b34 [.int .i64 y29.1.f0, .int .i64 y29.1.f1, .slice A31 y29.1.f2.length c32] 24, Row k24 24 (.slice A31 y29.1.f2.length c32) y29.1.f2, Blk b28 [.int .i64 y23.1.f0, .int .i64 y23.1.f1, .slice A25 y23.1.f2.length c26] 24]) [2, 3, 4, 5, 6] 7 rfl rfl rfl) ?_
        refine TA.not 40 rfl (by kernel_rfl) rfl (PQ.then_ PQ.body) (Wt.no rfl rfl rfl rfl) (fun W hO => (hb349 _ _ (hb364 _ _ hO)).selT (Ls := [Row k24 24 (.slice A3 y1.f2.length c4) y1.f2, Row k36 36 (.slice (some ⟨b14, 0, none⟩) 1 1) ([(⟨5, (⟨#[]⟩ : ByteArray), 0, ([] : List S36)⟩ : S36)] : List S36), Blk b34 [.int .i64 y29.1.f0, .int .i64 y29.1.f1, .slice A31 y29.1.f2.length c32] 24, Row k24 24 (.slice A31 y29.1.f2.length c32) y29.1.f2, Blk b28 [.int .i64 y23.1.f0, .int .i64 y23.1.f1, .slice A25 y23.1.f2.length c26] 24]) [2, 3, 4, 5, 6] 7 rfl rfl rfl) ?_
        refine TA.take 41 rfl (by kernel_rfl) rfl (PQ.then_ PQ.body) rfl (Val.pickN rfl rfl rfl) (fun W hO => (hb349 _ _ (hb364 _ _ hO)).selT (Ls := [Row k24 24 (.slice A3 y1.f2.length c4) y1.f2, Row k36 36 (.slice (some ⟨b14, 0, none⟩) 1 1) ([(⟨5, (⟨#[]⟩ : ByteArray), 0, ([] : List S36)⟩ : S36)] : List S36), Blk b34 [.int .i64 y29.1.f0, .int .i64 y29.1.f1, .slice A31 y29.1.f2.length c32] 24, Row k24 24 (.slice A31 y29.1.f2.length c32) y29.1.f2, Blk b28 [.int .i64 y23.1.f0, .int .i64 y23.1.f1, .slice A25 y23.1.f2.length c26] 24]) [2, 3, 4, 5, 6] 7 rfl rfl rfl) ?_
        refine TA.take 42 rfl (by kernel_rfl) rfl (PQ.then_ PQ.body) rfl (Val.assign rfl) (fun W hO => (hb349 _ _ (hb364 _ _ hO)).selT (Ls := [Row k24 24 (.slice A3 y1.f2.length c4) y1.f2, Row k36 36 (.slice (some ⟨b14, 0, none⟩) 1 1) ([(⟨5, (⟨#[]⟩ : ByteArray), 0, ([] : List S36)⟩ : S36)] : List S36), Blk b34 [.int .i64 y29.1.f0, .int .i64 y29.1.f1, .slice A31 y29.1.f2.length c32] 24, Row k24 24 (.slice A31 y29.1.f2.length c32) y29.1.f2, Blk b28 [.int .i64 y23.1.f0, .int .i64 y23.1.f1, .slice A25 y23.1.f2.length c26] 24]) [2, 3, 4, 5, 6] 7 rfl rfl rfl) ?_
        refine TA.done (by kernel_rfl) ?_
        refine TQ.then_ ?_
        refine TC.ret ?_
        refine TQ.back hb364 ?_
        refine TQ.back hb349 ?_
        refine TQ.back hb338 ?_
        obtain rfl := Option.some.inj h
        exact TQ.fin (.inl rfl) rfl Tryd.results7 (.tmp rfl .nil) rfl (FRel.mk (Ls := []) [] 8 (Gd.le.refl _) rfl rfl rfl ⟨rfl, rfl, rfl⟩)
    · have hk433 : decide (y367 = 5) = false := decide_eq_false hg369
      refine TA.not 8 rfl (by kernel_rfl) rfl (PQ.then_ PQ.body) (Wt.no rfl rfl rfl hk433) (fun W hO => (hb349 _ _ (hb364 _ _ hO)).selT (Ls := [Row k24 24 (.slice A3 y1.f2.length c4) y1.f2, Row k36 36 (.slice (some ⟨b14, 0, none⟩) 1 1) ([(⟨5, (⟨#[]⟩ : ByteArray), 0, ([] : List S36)⟩ : S36)] : List S36), Blk b34 [.int .i64 y29.1.f0, .int .i64 y29.1.f1, .slice A31 y29.1.f2.length c32] 24, Row k24 24 (.slice A31 y29.1.f2.length c32) y29.1.f2, Blk b28 [.int .i64 y23.1.f0, .int .i64 y23.1.f1, .slice A25 y23.1.f2.length c26] 24]) [2, 3, 4, 5, 6] 7 rfl rfl rfl) ?_
      refine TA.not 9 rfl (by kernel_rfl) rfl (PQ.then_ PQ.body) (Wt.no rfl rfl rfl hk433) (fun W hO => (hb349 _ _ (hb364 _ _ hO)).selT (Ls := [Row k24 24 (.slice A3 y1.f2.length c4) y1.f2, Row k36 36 (.slice (some ⟨b14, 0, none⟩) 1 1) ([(⟨5, (⟨#[]⟩ : ByteArray), 0, ([] : List S36)⟩ : S36)] : List S36), Blk b34 [.int .i64 y29.1.f0, .int .i64 y29.1.f1, .slice A31 y29.1.f2.length c32] 24, Row k24 24 (.slice A31 y29.1.f2.length c32) y29.1.f2, Blk b28 [.int .i64 y23.1.f0, .int .i64 y23.1.f1, .slice A25 y23.1.f2.length c26] 24]) [2, 3, 4, 5, 6] 7 rfl rfl rfl) ?_
      refine TA.take 10 rfl (by kernel_rfl) rfl (PQ.then_ PQ.body) rfl (Val.pickN rfl hk433 rfl) (fun W hO => (hb349 _ _ (hb364 _ _ hO)).selT (Ls := [Row k24 24 (.slice A3 y1.f2.length c4) y1.f2, Row k36 36 (.slice (some ⟨b14, 0, none⟩) 1 1) ([(⟨5, (⟨#[]⟩ : ByteArray), 0, ([] : List S36)⟩ : S36)] : List S36), Blk b34 [.int .i64 y29.1.f0, .int .i64 y29.1.f1, .slice A31 y29.1.f2.length c32] 24, Row k24 24 (.slice A31 y29.1.f2.length c32) y29.1.f2, Blk b28 [.int .i64 y23.1.f0, .int .i64 y23.1.f1, .slice A25 y23.1.f2.length c26] 24]) [2, 3, 4, 5, 6] 7 rfl rfl rfl) ?_
      refine TA.take 11 rfl (by kernel_rfl) rfl (PQ.then_ PQ.body) rfl (Val.move rfl) (fun W hO => (hb349 _ _ (hb364 _ _ hO)).selT (Ls := [Row k24 24 (.slice A3 y1.f2.length c4) y1.f2, Row k36 36 (.slice (some ⟨b14, 0, none⟩) 1 1) ([(⟨5, (⟨#[]⟩ : ByteArray), 0, ([] : List S36)⟩ : S36)] : List S36), Blk b34 [.int .i64 y29.1.f0, .int .i64 y29.1.f1, .slice A31 y29.1.f2.length c32] 24, Row k24 24 (.slice A31 y29.1.f2.length c32) y29.1.f2, Blk b28 [.int .i64 y23.1.f0, .int .i64 y23.1.f1, .slice A25 y23.1.f2.length c26] 24]) [2, 3, 4, 5, 6] 7 rfl rfl rfl) ?_
      refine TA.not 12 rfl (by kernel_rfl) rfl (PQ.then_ PQ.body) (Wt.no rfl rfl rfl rfl) (fun W hO => (hb349 _ _ (hb364 _ _ hO)).selT (Ls := [Row k24 24 (.slice A3 y1.f2.length c4) y1.f2, Row k36 36 (.slice (some ⟨b14, 0, none⟩) 1 1) ([(⟨5, (⟨#[]⟩ : ByteArray), 0, ([] : List S36)⟩ : S36)] : List S36), Blk b34 [.int .i64 y29.1.f0, .int .i64 y29.1.f1, .slice A31 y29.1.f2.length c32] 24, Row k24 24 (.slice A31 y29.1.f2.length c32) y29.1.f2, Blk b28 [.int .i64 y23.1.f0, .int .i64 y23.1.f1, .slice A25 y23.1.f2.length c26] 24]) [2, 3, 4, 5, 6] 7 rfl rfl rfl) ?_
      refine TA.take 13 rfl (by kernel_rfl) rfl (PQ.then_ PQ.body) rfl (Val.pickN rfl rfl rfl) (fun W hO => (hb349 _ _ (hb364 _ _ hO)).selT (Ls := [Row k24 24 (.slice A3 y1.f2.length c4) y1.f2, Row k36 36 (.slice (some ⟨b14, 0, none⟩) 1 1) ([(⟨5, (⟨#[]⟩ : ByteArray), 0, ([] : List S36)⟩ : S36)] : List S36), Blk b34 [.int .i64 y29.1.f0, .int .i64 y29.1.f1, .slice A31 y29.1.f2.length c32] 24, Row k24 24 (.slice A31 y29.1.f2.length c32) y29.1.f2, Blk b28 [.int .i64 y23.1.f0, .int .i64 y23.1.f1, .slice A25 y23.1.f2.length c26] 24]) [2, 3, 4, 5, 6] 7 rfl rfl rfl) ?_
      refine TA.take 14 rfl (by kernel_rfl) rfl (PQ.then_ PQ.body) rfl (Val.move rfl) (fun W hO => (hb349 _ _ (hb364 _ _ hO)).selT (Ls := [Row k24 24 (.slice A3 y1.f2.length c4) y1.f2, Row k36 36 (.slice (some ⟨b14, 0, none⟩) 1 1) ([(⟨5, (⟨#[]⟩ : ByteArray), 0, ([] : List S36)⟩ : S36)] : List S36), Blk b34 [.int .i64 y29.1.f0, .int .i64 y29.1.f1, .slice A31 y29.1.f2.length c32] 24, Row k24 24 (.slice A31 y29.1.f2.length c32) y29.1.f2, Blk b28 [.int .i64 y23.1.f0, .int .i64 y23.1.f1, .slice A25 y23.1.f2.length c26] 24]) [2, 3, 4, 5, 6] 7 rfl rfl rfl) ?_
      refine TA.not 15 rfl (by kernel_rfl) rfl (PQ.then_ PQ.body) (Wt.no rfl rfl rfl rfl) (fun W hO => (hb349 _ _ (hb364 _ _ hO)).selT (Ls := [Row k24 24 (.slice A3 y1.f2.length c4) y1.f2, Row k36 36 (.slice (some ⟨b14, 0, none⟩) 1 1) ([(⟨5, (⟨#[]⟩ : ByteArray), 0, ([] : List S36)⟩ : S36)] : List S36), Blk b34 [.int .i64 y29.1.f0, .int .i64 y29.1.f1, .slice A31 y29.1.f2.length c32] 24, Row k24 24 (.slice A31 y29.1.f2.length c32) y29.1.f2, Blk b28 [.int .i64 y23.1.f0, .int .i64 y23.1.f1, .slice A25 y23.1.f2.length c26] 24]) [2, 3, 4, 5, 6] 7 rfl rfl rfl) ?_
      refine TA.not 16 rfl (by kernel_rfl) rfl (PQ.then_ PQ.body) (Wt.no rfl rfl rfl rfl) (fun W hO => (hb349 _ _ (hb364 _ _ hO)).selT (Ls := [Row k24 24 (.slice A3 y1.f2.length c4) y1.f2, Row k36 36 (.slice (some ⟨b14, 0, none⟩) 1 1) ([(⟨5, (⟨#[]⟩ : ByteArray), 0, ([] : List S36)⟩ : S36)] : List S36), Blk b34 [.int .i64 y29.1.f0, .int .i64 y29.1.f1, .slice A31 y29.1.f2.length c32] 24, Row k24 24 (.slice A31 y29.1.f2.length c32) y29.1.f2, Blk b28 [.int .i64 y23.1.f0, .int .i64 y23.1.f1, .slice A25 y23.1.f2.length c26] 24]) [2, 3, 4, 5, 6] 7 rfl rfl rfl) ?_
      refine TA.not 17 rfl (by kernel_rfl) rfl (PQ.then_ PQ.body) (Wt.no rfl rfl rfl rfl) (fun W hO => (hb349 _ _ (hb364 _ _ hO)).selT (Ls := [Row k24 24 (.slice A3 y1.f2.length c4) y1.f2, Row k36 36 (.slice (some ⟨b14, 0, none⟩) 1 1) ([(⟨5, (⟨#[]⟩ : ByteArray), 0, ([] : List S36)⟩ : S36)] : List S36), Blk b34 [.int .i64 y29.1.f0, .int .i64 y29.1.f1, .slice A31 y29.1.f2.length c32] 24, Row k24 24 (.slice A31 y29.1.f2.length c32) y29.1.f2, Blk b28 [.int .i64 y23.1.f0, .int .i64 y23.1.f1, .slice A25 y23.1.f2.length c26] 24]) [2, 3, 4, 5, 6] 7 rfl rfl rfl) ?_
      refine TA.take 18 rfl (by kernel_rfl) rfl (PQ.then_ PQ.body) rfl (Val.pickN rfl rfl rfl) (fun W hO => (hb349 _ _ (hb364 _ _ hO)).selT (Ls := [Row k24 24 (.slice A3 y1.f2.length c4) y1.f2, Row k36 36 (.slice (some ⟨b14, 0, none⟩) 1 1) ([(⟨5, (⟨#[]⟩ : ByteArray), 0, ([] : List S36)⟩ : S36)] : List S36), Blk b34 [.int .i64 y29.1.f0, .int .i64 y29.1.f1, .slice A31 y29.1.f2.length c32] 24, Row k24 24 (.slice A31 y29.1.f2.length c32) y29.1.f2, Blk b28 [.int .i64 y23.1.f0, .int .i64 y23.1.f1, .slice A25 y23.1.f2.length c26] 24]) [2, 3, 4, 5, 6] 7 rfl rfl rfl) ?_
      refine TA.take 19 rfl (by kernel_rfl) rfl (PQ.then_ PQ.body) rfl (Val.move rfl) (fun W hO => (hb349 _ _ (hb364 _ _ hO)).selT (Ls := [Row k24 24 (.slice A3 y1.f2.length c4) y1.f2, Row k36 36 (.slice (some ⟨b14, 0, none⟩) 1 1) ([(⟨5, (⟨#[]⟩ : ByteArray), 0, ([] : List S36)⟩ : S36)] : List S36), Blk b34 [.int .i64 y29.1.f0, .int .i64 y29.1.f1, .slice A31 y29.1.f2.length c32] 24, Row k24 24 (.slice A31 y29.1.f2.length c32) y29.1.f2, Blk b28 [.int .i64 y23.1.f0, .int .i64 y23.1.f1, .slice A25 y23.1.f2.length c26] 24]) [2, 3, 4, 5, 6] 7 rfl rfl rfl) ?_
      refine TA.not 20 rfl (by kernel_rfl) rfl (PQ.then_ PQ.body) (Wt.no rfl rfl rfl rfl) (fun W hO => (hb349 _ _ (hb364 _ _ hO)).selT (Ls := [Row k24 24 (.slice A3 y1.f2.length c4) y1.f2, Row k36 36 (.slice (some ⟨b14, 0, none⟩) 1 1) ([(⟨5, (⟨#[]⟩ : ByteArray), 0, ([] : List S36)⟩ : S36)] : List S36), Blk b34 [.int .i64 y29.1.f0, .int .i64 y29.1.f1, .slice A31 y29.1.f2.length c32] 24, Row k24 24 (.slice A31 y29.1.f2.length c32) y29.1.f2, Blk b28 [.int .i64 y23.1.f0, .int .i64 y23.1.f1, .slice A25 y23.1.f2.length c26] 24]) [2, 3, 4, 5, 6] 7 rfl rfl rfl) ?_
      refine TA.not 21 rfl (by kernel_rfl) rfl (PQ.then_ PQ.body) (Wt.no rfl rfl rfl rfl) (fun W hO => (hb349 _ _ (hb364 _ _ hO)).selT (Ls := [Row k24 24 (.slice A3 y1.f2.length c4) y1.f2, Row k36 36 (.slice (some ⟨b14, 0, none⟩) 1 1) ([(⟨5, (⟨#[]⟩ : ByteArray), 0, ([] : List S36)⟩ : S36)] : List S36), Blk b34 [.int .i64 y29.1.f0, .int .i64 y29.1.f1, .slice A31 y29.1.f2.length c32] 24, Row k24 24 (.slice A31 y29.1.f2.length c32) y29.1.f2, Blk b28 [.int .i64 y23.1.f0, .int .i64 y23.1.f1, .slice A25 y23.1.f2.length c26] 24]) [2, 3, 4, 5, 6] 7 rfl rfl rfl) ?_
      refine TA.take 22 rfl (by kernel_rfl) rfl (PQ.then_ PQ.body) rfl (Val.pickN rfl rfl rfl) (fun W hO => (hb349 _ _ (hb364 _ _ hO)).selT (Ls := [Row k24 24 (.slice A3 y1.f2.length c4) y1.f2, Row k36 36 (.slice (some ⟨b14, 0, none⟩) 1 1) ([(⟨5, (⟨#[]⟩ : ByteArray), 0, ([] : List S36)⟩ : S36)] : List S36), Blk b34 [.int .i64 y29.1.f0, .int .i64 y29.1.f1, .slice A31 y29.1.f2.length c32] 24, Row k24 24 (.slice A31 y29.1.f2.length c32) y29.1.f2, Blk b28 [.int .i64 y23.1.f0, .int .i64 y23.1.f1, .slice A25 y23.1.f2.length c26] 24]) [2, 3, 4, 5, 6] 7 rfl rfl rfl) ?_
      refine TA.take 23 rfl (by kernel_rfl) rfl (PQ.then_ PQ.body) rfl (Val.move rfl) (fun W hO => (hb349 _ _ (hb364 _ _ hO)).selT (Ls := [Row k24 24 (.slice A3 y1.f2.length c4) y1.f2, Row k36 36 (.slice (some ⟨b14, 0, none⟩) 1 1) ([(⟨5, (⟨#[]⟩ : ByteArray), 0, ([] : List S36)⟩ : S36)] : List S36), Blk b34 [.int .i64 y29.1.f0, .int .i64 y29.1.f1, .slice A31 y29.1.f2.length c32] 24, Row k24 24 (.slice A31 y29.1.f2.length c32) y29.1.f2, Blk b28 [.int .i64 y23.1.f0, .int .i64 y23.1.f1, .slice A25 y23.1.f2.length c26] 24]) [2, 3, 4, 5, 6] 7 rfl rfl rfl) ?_
      refine TA.not 24 rfl (by kernel_rfl) rfl (PQ.then_ PQ.body) (Wt.no rfl rfl rfl rfl) (fun W hO => (hb349 _ _ (hb364 _ _ hO)).selT (Ls := [Row k24 24 (.slice A3 y1.f2.length c4) y1.f2, Row k36 36 (.slice (some ⟨b14, 0, none⟩) 1 1) ([(⟨5, (⟨#[]⟩ : ByteArray), 0, ([] : List S36)⟩ : S36)] : List S36), Blk b34 [.int .i64 y29.1.f0, .int .i64 y29.1.f1, .slice A31 y29.1.f2.length c32] 24, Row k24 24 (.slice A31 y29.1.f2.length c32) y29.1.f2, Blk b28 [.int .i64 y23.1.f0, .int .i64 y23.1.f1, .slice A25 y23.1.f2.length c26] 24]) [2, 3, 4, 5, 6] 7 rfl rfl rfl) ?_
      refine TA.not 25 rfl (by kernel_rfl) rfl (PQ.then_ PQ.body) (Wt.no rfl rfl rfl rfl) (fun W hO => (hb349 _ _ (hb364 _ _ hO)).selT (Ls := [Row k24 24 (.slice A3 y1.f2.length c4) y1.f2, Row k36 36 (.slice (some ⟨b14, 0, none⟩) 1 1) ([(⟨5, (⟨#[]⟩ : ByteArray), 0, ([] : List S36)⟩ : S36)] : List S36), Blk b34 [.int .i64 y29.1.f0, .int .i64 y29.1.f1, .slice A31 y29.1.f2.length c32] 24, Row k24 24 (.slice A31 y29.1.f2.length c32) y29.1.f2, Blk b28 [.int .i64 y23.1.f0, .int .i64 y23.1.f1, .slice A25 y23.1.f2.length c26] 24]) [2, 3, 4, 5, 6] 7 rfl rfl rfl) ?_
      refine TA.not 26 rfl (by kernel_rfl) rfl (PQ.then_ PQ.body) (Wt.no rfl rfl rfl rfl) (fun W hO => (hb349 _ _ (hb364 _ _ hO)).selT (Ls := [Row k24 24 (.slice A3 y1.f2.length c4) y1.f2, Row k36 36 (.slice (some ⟨b14, 0, none⟩) 1 1) ([(⟨5, (⟨#[]⟩ : ByteArray), 0, ([] : List S36)⟩ : S36)] : List S36), Blk b34 [.int .i64 y29.1.f0, .int .i64 y29.1.f1, .slice A31 y29.1.f2.length c32] 24, Row k24 24 (.slice A31 y29.1.f2.length c32) y29.1.f2, Blk b28 [.int .i64 y23.1.f0, .int .i64 y23.1.f1, .slice A25 y23.1.f2.length c26] 24]) [2, 3, 4, 5, 6] 7 rfl rfl rfl) ?_
      refine TA.not 27 rfl (by kernel_rfl) rfl (PQ.then_ PQ.body) (Wt.no rfl rfl rfl rfl) (fun W hO => (hb349 _ _ (hb364 _ _ hO)).selT (Ls := [Row k24 24 (.slice A3 y1.f2.length c4) y1.f2, Row k36 36 (.slice (some ⟨b14, 0, none⟩) 1 1) ([(⟨5, (⟨#[]⟩ : ByteArray), 0, ([] : List S36)⟩ : S36)] : List S36), Blk b34 [.int .i64 y29.1.f0, .int .i64 y29.1.f1, .slice A31 y29.1.f2.length c32] 24, Row k24 24 (.slice A31 y29.1.f2.length c32) y29.1.f2, Blk b28 [.int .i64 y23.1.f0, .int .i64 y23.1.f1, .slice A25 y23.1.f2.length c26] 24]) [2, 3, 4, 5, 6] 7 rfl rfl rfl) ?_
      refine TA.take 28 rfl (by kernel_rfl) rfl (PQ.then_ PQ.body) rfl (Val.pickN rfl rfl rfl) (fun W hO => (hb349 _ _ (hb364 _ _ hO)).selT (Ls := [Row k24 24 (.slice A3 y1.f2.length c4) y1.f2, Row k36 36 (.slice (some ⟨b14, 0, none⟩) 1 1) ([(⟨5, (⟨#[]⟩ : ByteArray), 0, ([] : List S36)⟩ : S36)] : List S36), Blk b34 [.int .i64 y29.1.f0, .int .i64 y29.1.f1, .slice A31 y29.1.f2.length c32] 24, Row k24 24 (.slice A31 y29.1.f2.length c32) y29.1.f2, Blk b28 [.int .i64 y23.1.f0, .int .i64 y23.1.f1, .slice A25 y23.1.f2.length c26] 24]) [2, 3, 4, 5, 6] 7 rfl rfl rfl) ?_
      refine TA.take 29 rfl (by kernel_rfl) rfl (PQ.then_ PQ.body) rfl (Val.move rfl) (fun W hO => (hb349 _ _ (hb364 _ _ hO)).selT (Ls := [Row k24 24 (.slice A3 y1.f2.length c4) y1.f2, Row k36 36 (.slice (some ⟨b14, 0, none⟩) 1 1) ([(⟨5, (⟨#[]⟩ : ByteArray), 0, ([] : List S36)⟩ : S36)] : List S36), Blk b34 [.int .i64 y29.1.f0, .int .i64 y29.1.f1, .slice A31 y29.1.f2.length c32] 24, Row k24 24 (.slice A31 y29.1.f2.length c32) y29.1.f2, Blk b28 [.int .i64 y23.1.f0, .int .i64 y23.1.f1, .slice A25 y23.1.f2.length c26] 24]) [2, 3, 4, 5, 6] 7 rfl rfl rfl) ?_
      refine TA.not 30 rfl (by kernel_rfl) rfl (PQ.then_ PQ.body) (Wt.no rfl rfl rfl rfl) (fun W hO => (hb349 _ _ (hb364 _ _ hO)).selT (Ls := [Row k24 24 (.slice A3 y1.f2.length c4) y1.f2, Row k36 36 (.slice (some ⟨b14, 0, none⟩) 1 1) ([(⟨5, (⟨#[]⟩ : ByteArray), 0, ([] : List S36)⟩ : S36)] : List S36), Blk b34 [.int .i64 y29.1.f0, .int .i64 y29.1.f1, .slice A31 y29.1.f2.length c32] 24, Row k24 24 (.slice A31 y29.1.f2.length c32) y29.1.f2, Blk b28 [.int .i64 y23.1.f0, .int .i64 y23.1.f1, .slice A25 y23.1.f2.length c26] 24]) [2, 3, 4, 5, 6] 7 rfl rfl rfl) ?_
      refine TA.not 31 rfl (by kernel_rfl) rfl (PQ.then_ PQ.body) (Wt.no rfl rfl rfl rfl) (fun W hO => (hb349 _ _ (hb364 _ _ hO)).selT (Ls := [Row k24 24 (.slice A3 y1.f2.length c4) y1.f2, Row k36 36 (.slice (some ⟨b14, 0, none⟩) 1 1) ([(⟨5, (⟨#[]⟩ : ByteArray), 0, ([] : List S36)⟩ : S36)] : List S36), Blk b34 [.int .i64 y29.1.f0, .int .i64 y29.1.f1, .slice A31 y29.1.f2.length c32] 24, Row k24 24 (.slice A31 y29.1.f2.length c32) y29.1.f2, Blk b28 [.int .i64 y23.1.f0, .int .i64 y23.1.f1, .slice A25 y23.1.f2.length c26] 24]) [2, 3, 4, 5, 6] 7 rfl rfl rfl) ?_
      refine TA.take 32 rfl (by kernel_rfl) rfl (PQ.then_ PQ.body) rfl (Val.pickN rfl rfl rfl) (fun W hO => (hb349 _ _ (hb364 _ _ hO)).selT (Ls := [Row k24 24 (.slice A3 y1.f2.length c4) y1.f2, Row k36 36 (.slice (some ⟨b14, 0, none⟩) 1 1) ([(⟨5, (⟨#[]⟩ : ByteArray), 0, ([] : List S36)⟩ : S36)] : List S36), Blk b34 [.int .i64 y29.1.f0, .int .i64 y29.1.f1, .slice A31 y29.1.f2.length c32] 24, Row k24 24 (.slice A31 y29.1.f2.length c32) y29.1.f2, Blk b28 [.int .i64 y23.1.f0, .int .i64 y23.1.f1, .slice A25 y23.1.f2.length c26] 24]) [2, 3, 4, 5, 6] 7 rfl rfl rfl) ?_
      refine TA.take 33 rfl (by kernel_rfl) rfl (PQ.then_ PQ.body) rfl (Val.move rfl) (fun W hO => (hb349 _ _ (hb364 _ _ hO)).selT (Ls := [Row k24 24 (.slice A3 y1.f2.length c4) y1.f2, Row k36 36 (.slice (some ⟨b14, 0, none⟩) 1 1) ([(⟨5, (⟨#[]⟩ : ByteArray), 0, ([] : List S36)⟩ : S36)] : List S36), Blk b34 [.int .i64 y29.1.f0, .int .i64 y29.1.f1, .slice A31 y29.1.f2.length c32] 24, Row k24 24 (.slice A31 y29.1.f2.length c32) y29.1.f2, Blk b28 [.int .i64 y23.1.f0, .int .i64 y23.1.f1, .slice A25 y23.1.f2.length c26] 24]) [2, 3, 4, 5, 6] 7 rfl rfl rfl) ?_
      refine TA.not 34 rfl (by kernel_rfl) rfl (PQ.then_ PQ.body) (Wt.no rfl rfl rfl rfl) (fun W hO => (hb349 _ _ (hb364 _ _ hO)).selT (Ls := [Row k24 24 (.slice A3 y1.f2.length c4) y1.f2, Row k36 36 (.slice (some ⟨b14, 0, none⟩) 1 1) ([(⟨5, (⟨#[]⟩ : ByteArray), 0, ([] : List S36)⟩ : S36)] : List S36), Blk b34 [.int .i64 y29.1.f0, .int .i64 y29.1.f1, .slice A31 y29.1.f2.length c32] 24, Row k24 24 (.slice A31 y29.1.f2.length c32) y29.1.f2, Blk b28 [.int .i64 y23.1.f0, .int .i64 y23.1.f1, .slice A25 y23.1.f2.length c26] 24]) [2, 3, 4, 5, 6] 7 rfl rfl rfl) ?_
      refine TA.not 35 rfl (by kernel_rfl) rfl (PQ.then_ PQ.body) (Wt.no rfl rfl rfl rfl) (fun W hO => (hb349 _ _ (hb364 _ _ hO)).selT (Ls := [Row k24 24 (.slice A3 y1.f2.length c4) y1.f2, Row k36 36 (.slice (some ⟨b14, 0, none⟩) 1 1) ([(⟨5, (⟨#[]⟩ : ByteArray), 0, ([] : List S36)⟩ : S36)] : List S36), Blk b34 [.int .i64 y29.1.f0, .int .i64 y29.1.f1, .slice A31 y29.1.f2.length c32] 24, Row k24 24 (.slice A31 y29.1.f2.length c32) y29.1.f2, Blk b28 [.int .i64 y23.1.f0, .int .i64 y23.1.f1, .slice A25 y23.1.f2.length c26] 24]) [2, 3, 4, 5, 6] 7 rfl rfl rfl) ?_
      refine TA.take 36 rfl (by kernel_rfl) rfl (PQ.then_ PQ.body) rfl (Val.pickN rfl rfl rfl) (fun W hO => (hb349 _ _ (hb364 _ _ hO)).selT (Ls := [Row k24 24 (.slice A3 y1.f2.length c4) y1.f2, Row k36 36 (.slice (some ⟨b14, 0, none⟩) 1 1) ([(⟨5, (⟨#[]⟩ : ByteArray), 0, ([] : List S36)⟩ : S36)] : List S36), Blk b34 [.int .i64 y29.1.f0, .int .i64 y29.1.f1, .slice A31 y29.1.f2.length c32] 24, Row k24 24 (.slice A31 y29.1.f2.length c32) y29.1.f2, Blk b28 [.int .i64 y23.1.f0, .int .i64 y23.1.f1, .slice A25 y23.1.f2.length c26] 24]) [2, 3, 4, 5, 6] 7 rfl rfl rfl) ?_
      refine TA.take 37 rfl (by kernel_rfl) rfl (PQ.then_ PQ.body) rfl (Val.move rfl) (fun W hO => (hb349 _ _ (hb364 _ _ hO)).selT (Ls := [Row k24 24 (.slice A3 y1.f2.length c4) y1.f2, Row k36 36 (.slice (some ⟨b14, 0, none⟩) 1 1) ([(⟨5, (⟨#[]⟩ : ByteArray), 0, ([] : List S36)⟩ : S36)] : List S36), Blk b34 [.int .i64 y29.1.f0, .int .i64 y29.1.f1, .slice A31 y29.1.f2.length c32] 24, Row k24 24 (.slice A31 y29.1.f2.length c32) y29.1.f2, Blk b28 [.int .i64 y23.1.f0, .int .i64 y23.1.f1, .slice A25 y23.1.f2.length c26] 24]) [2, 3, 4, 5, 6] 7 rfl rfl rfl) ?_
      refine TA.not 38 rfl (by kernel_rfl) rfl (PQ.then_ PQ.body) (Wt.no rfl rfl rfl rfl) (fun W hO => (hb349 _ _ (hb364 _ _ hO)).selT (Ls := [Row k24 24 (.slice A3 y1.f2.length c4) y1.f2, Row k36 36 (.slice (some ⟨b14, 0, none⟩) 1 1) ([(⟨5, (⟨#[]⟩ : ByteArray), 0, ([] : List S36)⟩ : S36)] : List S36), Blk b34 [.int .i64 y29.1.f0, .int .i64 y29.1.f1, .slice A31 y29.1.f2.length c32] 24, Row k24 24 (.slice A31 y29.1.f2.length c32) y29.1.f2, Blk b28 [.int .i64 y23.1.f0, .int .i64 y23.1.f1, .slice A25 y23.1.f2.length c26] 24]) [2, 3, 4, 5, 6] 7 rfl rfl rfl) ?_
      refine TA.not 39 rfl (by kernel_rfl) rfl (PQ.then_ PQ.body) (Wt.no rfl rfl rfl rfl) (fun W hO => (hb349 _ _ (hb364 _ _ hO)).selT (Ls := [Row k24 24 (.slice A3 y1.f2.length c4) y1.f2, Row k36 36 (.slice (some ⟨b14, 0, none⟩) 1 1) ([(⟨5, (⟨#[]⟩ : ByteArray), 0, ([] : List S36)⟩ : S36)] : List S36), Blk b34 [.int .i64 y29.1.f0, .int .i64 y29.1.f1, .slice A31 y29.1.f2.length c32] 24, Row k24 24 (.slice A31 y29.1.f2.length c32) y29.1.f2, Blk b28 [.int .i64 y23.1.f0, .int .i64 y23.1.f1, .slice A25 y23.1.f2.length c26] 24]) [2, 3, 4, 5, 6] 7 rfl rfl rfl) ?_
      refine TA.not 40 rfl (by kernel_rfl) rfl (PQ.then_ PQ.body) (Wt.no rfl rfl rfl rfl) (fun W hO => (hb349 _ _ (hb364 _ _ hO)).selT (Ls := [Row k24 24 (.slice A3 y1.f2.length c4) y1.f2, Row k36 36 (.slice (some ⟨b14, 0, none⟩) 1 1) ([(⟨5, (⟨#[]⟩ : ByteArray), 0, ([] : List S36)⟩ : S36)] : List S36), Blk b34 [.int .i64 y29.1.f0, .int .i64 y29.1.f1, .slice A31 y29.1.f2.length c32] 24, Row k24 24 (.slice A31 y29.1.f2.length c32) y29.1.f2, Blk b28 [.int .i64 y23.1.f0, .int .i64 y23.1.f1, .slice A25 y23.1.f2.length c26] 24]) [2, 3, 4, 5, 6] 7 rfl rfl rfl) ?_
      refine TA.take 41 rfl (by kernel_rfl) rfl (PQ.then_ PQ.body) rfl (Val.pickN rfl rfl rfl) (fun W hO => (hb349 _ _ (hb364 _ _ hO)).selT (Ls := [Row k24 24 (.slice A3 y1.f2.length c4) y1.f2, Row k36 36 (.slice (some ⟨b14, 0, none⟩) 1 1) ([(⟨5, (⟨#[]⟩ : ByteArray), 0, ([] : List S36)⟩ : S36)] : List S36), Blk b34 [.int .i64 y29.1.f0, .int .i64 y29.1.f1, .slice A31 y29.1.f2.length c32] 24, Row k24 24 (.slice A31 y29.1.f2.length c32) y29.1.f2, Blk b28 [.int .i64 y23.1.f0, .int .i64 y23.1.f1, .slice A25 y23.1.f2.length c26] 24]) [2, 3, 4, 5, 6] 7 rfl rfl rfl) ?_
      refine TA.take 42 rfl (by kernel_rfl) rfl (PQ.then_ PQ.body) rfl (Val.assign rfl) (fun W hO => (hb349 _ _ (hb364 _ _ hO)).selT (Ls := [Row k24 24 (.slice A3 y1.f2.length c4) y1.f2, Row k36 36 (.slice (some ⟨b14, 0, none⟩) 1 1) ([(⟨5, (⟨#[]⟩ : ByteArray), 0, ([] : List S36)⟩ : S36)] : List S36), Blk b34 [.int .i64 y29.1.f0, .int .i64 y29.1.f1, .slice A31 y29.1.f2.length c32] 24, Row k24 24 (.slice A31 y29.1.f2.length c32) y29.1.f2, Blk b28 [.int .i64 y23.1.f0, .int .i64 y23.1.f1, .slice A25 y23.1.f2.length c26] 24]) [2, 3, 4, 5, 6] 7 rfl rfl rfl) ?_
      refine TA.done (by kernel_rfl) ?_
      refine TQ.then_ ?_
      refine TC.ret ?_
      refine TQ.back hb364 ?_
      refine TQ.back hb349 ?_
      refine TQ.back hb338 ?_
      obtain rfl := Option.some.inj h
      exact TQ.fin (.inl rfl) rfl Tryd.results7 (.tmp rfl .nil) rfl (FRel.mk (Ls := []) [] 8 (Gd.le.refl _) rfl rfl rfl ⟨rfl, rfl, rfl⟩)
  · have hk434 : y352 = false := (by simpa using hg354)
    refine TA.not 3 rfl (by kernel_rfl) rfl (PQ.then_ PQ.body) (Wt.no rfl rfl rfl hk434) (fun W hO => (hb349 _ _ hO).selT (Ls := [Row k24 24 (.slice A3 y1.f2.length c4) y1.f2, Row k36 36 (.slice (some ⟨b14, 0, none⟩) 1 1) ([(⟨5, (⟨#[]⟩ : ByteArray), 0, ([] : List S36)⟩ : S36)] : List S36), Blk b34 [.int .i64 y29.1.f0, .int .i64 y29.1.f1, .slice A31 y29.1.f2.length c32] 24, Row k24 24 (.slice A31 y29.1.f2.length c32) y29.1.f2, Blk b28 [.int .i64 y23.1.f0, .int .i64 y23.1.f1, .slice A25 y23.1.f2.length c26] 24]) [1, 2, 3, 4, 5] 6 rfl rfl rfl) ?_
    refine TA.not 4 rfl (by kernel_rfl) rfl (PQ.then_ PQ.body) (Wt.no rfl rfl rfl hk434) (fun W hO => (hb349 _ _ hO).selT (Ls := [Row k24 24 (.slice A3 y1.f2.length c4) y1.f2, Row k36 36 (.slice (some ⟨b14, 0, none⟩) 1 1) ([(⟨5, (⟨#[]⟩ : ByteArray), 0, ([] : List S36)⟩ : S36)] : List S36), Blk b34 [.int .i64 y29.1.f0, .int .i64 y29.1.f1, .slice A31 y29.1.f2.length c32] 24, Row k24 24 (.slice A31 y29.1.f2.length c32) y29.1.f2, Blk b28 [.int .i64 y23.1.f0, .int .i64 y23.1.f1, .slice A25 y23.1.f2.length c26] 24]) [1, 2, 3, 4, 5] 6 rfl rfl rfl) ?_
    refine TA.not 5 rfl (by kernel_rfl) rfl (PQ.then_ PQ.body) (Wt.no rfl rfl rfl hk434) (fun W hO => (hb349 _ _ hO).selT (Ls := [Row k24 24 (.slice A3 y1.f2.length c4) y1.f2, Row k36 36 (.slice (some ⟨b14, 0, none⟩) 1 1) ([(⟨5, (⟨#[]⟩ : ByteArray), 0, ([] : List S36)⟩ : S36)] : List S36), Blk b34 [.int .i64 y29.1.f0, .int .i64 y29.1.f1, .slice A31 y29.1.f2.length c32] 24, Row k24 24 (.slice A31 y29.1.f2.length c32) y29.1.f2, Blk b28 [.int .i64 y23.1.f0, .int .i64 y23.1.f1, .slice A25 y23.1.f2.length c26] 24]) [1, 2, 3, 4, 5] 6 rfl rfl rfl) ?_
    refine TA.take 6 rfl (by kernel_rfl) rfl (PQ.then_ PQ.body) rfl (Val.pickN rfl hk434 rfl) (fun W hO => (hb349 _ _ hO).selT (Ls := [Row k24 24 (.slice A3 y1.f2.length c4) y1.f2, Row k36 36 (.slice (some ⟨b14, 0, none⟩) 1 1) ([(⟨5, (⟨#[]⟩ : ByteArray), 0, ([] : List S36)⟩ : S36)] : List S36), Blk b34 [.int .i64 y29.1.f0, .int .i64 y29.1.f1, .slice A31 y29.1.f2.length c32] 24, Row k24 24 (.slice A31 y29.1.f2.length c32) y29.1.f2, Blk b28 [.int .i64 y23.1.f0, .int .i64 y23.1.f1, .slice A25 y23.1.f2.length c26] 24]) [1, 2, 3, 4, 5] 6 rfl rfl rfl) ?_
    refine TA.take 7 rfl (by kernel_rfl) rfl (PQ.then_ PQ.body) rfl (Val.move rfl) (fun W hO => (hb349 _ _ hO).selT (Ls := [Row k24 24 (.slice A3 y1.f2.length c4) y1.f2, Row k36 36 (.slice (some ⟨b14, 0, none⟩) 1 1) ([(⟨5, (⟨#[]⟩ : ByteArray), 0, ([] : List S36)⟩ : S36)] : List S36), Blk b34 [.int .i64 y29.1.f0, .int .i64 y29.1.f1, .slice A31 y29.1.f2.length c32] 24, Row k24 24 (.slice A31 y29.1.f2.length c32) y29.1.f2, Blk b28 [.int .i64 y23.1.f0, .int .i64 y23.1.f1, .slice A25 y23.1.f2.length c26] 24]) [1, 2, 3, 4, 5] 6 rfl rfl rfl) ?_
    refine TA.not 8 rfl (by kernel_rfl) rfl (PQ.then_ PQ.body) (Wt.no rfl rfl rfl rfl) (fun W hO => (hb349 _ _ hO).selT (Ls := [Row k24 24 (.slice A3 y1.f2.length c4) y1.f2, Row k36 36 (.slice (some ⟨b14, 0, none⟩) 1 1) ([(⟨5, (⟨#[]⟩ : ByteArray), 0, ([] : List S36)⟩ : S36)] : List S36), Blk b34 [.int .i64 y29.1.f0, .int .i64 y29.1.f1, .slice A31 y29.1.f2.length c32] 24, Row k24 24 (.slice A31 y29.1.f2.length c32) y29.1.f2, Blk b28 [.int .i64 y23.1.f0, .int .i64 y23.1.f1, .slice A25 y23.1.f2.length c26] 24]) [1, 2, 3, 4, 5] 6 rfl rfl rfl) ?_
    refine TA.not 9 rfl (by kernel_rfl) rfl (PQ.then_ PQ.body) (Wt.no rfl rfl rfl rfl) (fun W hO => (hb349 _ _ hO).selT (Ls := [Row k24 24 (.slice A3 y1.f2.length c4) y1.f2, Row k36 36 (.slice (some ⟨b14, 0, none⟩) 1 1) ([(⟨5, (⟨#[]⟩ : ByteArray), 0, ([] : List S36)⟩ : S36)] : List S36), Blk b34 [.int .i64 y29.1.f0, .int .i64 y29.1.f1, .slice A31 y29.1.f2.length c32] 24, Row k24 24 (.slice A31 y29.1.f2.length c32) y29.1.f2, Blk b28 [.int .i64 y23.1.f0, .int .i64 y23.1.f1, .slice A25 y23.1.f2.length c26] 24]) [1, 2, 3, 4, 5] 6 rfl rfl rfl) ?_
    refine TA.take 10 rfl (by kernel_rfl) rfl (PQ.then_ PQ.body) rfl (Val.pickN rfl rfl rfl) (fun W hO => (hb349 _ _ hO).selT (Ls := [Row k24 24 (.slice A3 y1.f2.length c4) y1.f2, Row k36 36 (.slice (some ⟨b14, 0, none⟩) 1 1) ([(⟨5, (⟨#[]⟩ : ByteArray), 0, ([] : List S36)⟩ : S36)] : List S36), Blk b34 [.int .i64 y29.1.f0, .int .i64 y29.1.f1, .slice A31 y29.1.f2.length c32] 24, Row k24 24 (.slice A31 y29.1.f2.length c32) y29.1.f2, Blk b28 [.int .i64 y23.1.f0, .int .i64 y23.1.f1, .slice A25 y23.1.f2.length c26] 24]) [1, 2, 3, 4, 5] 6 rfl rfl rfl) ?_
    refine TA.take 11 rfl (by kernel_rfl) rfl (PQ.then_ PQ.body) rfl (Val.move rfl) (fun W hO => (hb349 _ _ hO).selT (Ls := [Row k24 24 (.slice A3 y1.f2.length c4) y1.f2, Row k36 36 (.slice (some ⟨b14, 0, none⟩) 1 1) ([(⟨5, (⟨#[]⟩ : ByteArray), 0, ([] : List S36)⟩ : S36)] : List S36), Blk b34 [.int .i64 y29.1.f0, .int .i64 y29.1.f1, .slice A31 y29.1.f2.length c32] 24, Row k24 24 (.slice A31 y29.1.f2.length c32) y29.1.f2, Blk b28 [.int .i64 y23.1.f0, .int .i64 y23.1.f1, .slice A25 y23.1.f2.length c26] 24]) [1, 2, 3, 4, 5] 6 rfl rfl rfl) ?_
    refine TA.not 12 rfl (by kernel_rfl) rfl (PQ.then_ PQ.body) (Wt.no rfl rfl rfl rfl) (fun W hO => (hb349 _ _ hO).selT (Ls := [Row k24 24 (.slice A3 y1.f2.length c4) y1.f2, Row k36 36 (.slice (some ⟨b14, 0, none⟩) 1 1) ([(⟨5, (⟨#[]⟩ : ByteArray), 0, ([] : List S36)⟩ : S36)] : List S36), Blk b34 [.int .i64 y29.1.f0, .int .i64 y29.1.f1, .slice A31 y29.1.f2.length c32] 24, Row k24 24 (.slice A31 y29.1.f2.length c32) y29.1.f2, Blk b28 [.int .i64 y23.1.f0, .int .i64 y23.1.f1, .slice A25 y23.1.f2.length c26] 24]) [1, 2, 3, 4, 5] 6 rfl rfl rfl) ?_
    refine TA.take 13 rfl (by kernel_rfl) rfl (PQ.then_ PQ.body) rfl (Val.pickN rfl rfl rfl) (fun W hO => (hb349 _ _ hO).selT (Ls := [Row k24 24 (.slice A3 y1.f2.length c4) y1.f2, Row k36 36 (.slice (some ⟨b14, 0, none⟩) 1 1) ([(⟨5, (⟨#[]⟩ : ByteArray), 0, ([] : List S36)⟩ : S36)] : List S36), Blk b34 [.int .i64 y29.1.f0, .int .i64 y29.1.f1, .slice A31 y29.1.f2.length c32] 24, Row k24 24 (.slice A31 y29.1.f2.length c32) y29.1.f2, Blk b28 [.int .i64 y23.1.f0, .int .i64 y23.1.f1, .slice A25 y23.1.f2.length c26] 24]) [1, 2, 3, 4, 5] 6 rfl rfl rfl) ?_
    refine TA.take 14 rfl (by kernel_rfl) rfl (PQ.then_ PQ.body) rfl (Val.move rfl) (fun W hO => (hb349 _ _ hO).selT (Ls := [Row k24 24 (.slice A3 y1.f2.length c4) y1.f2, Row k36 36 (.slice (some ⟨b14, 0, none⟩) 1 1) ([(⟨5, (⟨#[]⟩ : ByteArray), 0, ([] : List S36)⟩ : S36)] : List S36), Blk b34 [.int .i64 y29.1.f0, .int .i64 y29.1.f1, .slice A31 y29.1.f2.length c32] 24, Row k24 24 (.slice A31 y29.1.f2.length c32) y29.1.f2, Blk b28 [.int .i64 y23.1.f0, .int .i64 y23.1.f1, .slice A25 y23.1.f2.length c26] 24]) [1, 2, 3, 4, 5] 6 rfl rfl rfl) ?_
    refine TA.not 15 rfl (by kernel_rfl) rfl (PQ.then_ PQ.body) (Wt.no rfl rfl rfl rfl) (fun W hO => (hb349 _ _ hO).selT (Ls := [Row k24 24 (.slice A3 y1.f2.length c4) y1.f2, Row k36 36 (.slice (some ⟨b14, 0, none⟩) 1 1) ([(⟨5, (⟨#[]⟩ : ByteArray), 0, ([] : List S36)⟩ : S36)] : List S36), Blk b34 [.int .i64 y29.1.f0, .int .i64 y29.1.f1, .slice A31 y29.1.f2.length c32] 24, Row k24 24 (.slice A31 y29.1.f2.length c32) y29.1.f2, Blk b28 [.int .i64 y23.1.f0, .int .i64 y23.1.f1, .slice A25 y23.1.f2.length c26] 24]) [1, 2, 3, 4, 5] 6 rfl rfl rfl) ?_
    refine TA.not 16 rfl (by kernel_rfl) rfl (PQ.then_ PQ.body) (Wt.no rfl rfl rfl rfl) (fun W hO => (hb349 _ _ hO).selT (Ls := [Row k24 24 (.slice A3 y1.f2.length c4) y1.f2, Row k36 36 (.slice (some ⟨b14, 0, none⟩) 1 1) ([(⟨5, (⟨#[]⟩ : ByteArray), 0, ([] : List S36)⟩ : S36)] : List S36), Blk b34 [.int .i64 y29.1.f0, .int .i64 y29.1.f1, .slice A31 y29.1.f2.length c32] 24, Row k24 24 (.slice A31 y29.1.f2.length c32) y29.1.f2, Blk b28 [.int .i64 y23.1.f0, .int .i64 y23.1.f1, .slice A25 y23.1.f2.length c26] 24]) [1, 2, 3, 4, 5] 6 rfl rfl rfl) ?_
    refine TA.not 17 rfl (by kernel_rfl) rfl (PQ.then_ PQ.body) (Wt.no rfl rfl rfl rfl) (fun W hO => (hb349 _ _ hO).selT (Ls := [Row k24 24 (.slice A3 y1.f2.length c4) y1.f2, Row k36 36 (.slice (some ⟨b14, 0, none⟩) 1 1) ([(⟨5, (⟨#[]⟩ : ByteArray), 0, ([] : List S36)⟩ : S36)] : List S36), Blk b34 [.int .i64 y29.1.f0, .int .i64 y29.1.f1, .slice A31 y29.1.f2.length c32] 24, Row k24 24 (.slice A31 y29.1.f2.length c32) y29.1.f2, Blk b28 [.int .i64 y23.1.f0, .int .i64 y23.1.f1, .slice A25 y23.1.f2.length c26] 24]) [1, 2, 3, 4, 5] 6 rfl rfl rfl) ?_
    refine TA.take 18 rfl (by kernel_rfl) rfl (PQ.then_ PQ.body) rfl (Val.pickN rfl rfl rfl) (fun W hO => (hb349 _ _ hO).selT (Ls := [Row k24 24 (.slice A3 y1.f2.length c4) y1.f2, Row k36 36 (.slice (some ⟨b14, 0, none⟩) 1 1) ([(⟨5, (⟨#[]⟩ : ByteArray), 0, ([] : List S36)⟩ : S36)] : List S36), Blk b34 [.int .i64 y29.1.f0, .int .i64 y29.1.f1, .slice A31 y29.1.f2.length c32] 24, Row k24 24 (.slice A31 y29.1.f2.length c32) y29.1.f2, Blk b28 [.int .i64 y23.1.f0, .int .i64 y23.1.f1, .slice A25 y23.1.f2.length c26] 24]) [1, 2, 3, 4, 5] 6 rfl rfl rfl) ?_
    refine TA.take 19 rfl (by kernel_rfl) rfl (PQ.then_ PQ.body) rfl (Val.move rfl) (fun W hO => (hb349 _ _ hO).selT (Ls := [Row k24 24 (.slice A3 y1.f2.length c4) y1.f2, Row k36 36 (.slice (some ⟨b14, 0, none⟩) 1 1) ([(⟨5, (⟨#[]⟩ : ByteArray), 0, ([] : List S36)⟩ : S36)] : List S36), Blk b34 [.int .i64 y29.1.f0, .int .i64 y29.1.f1, .slice A31 y29.1.f2.length c32] 24, Row k24 24 (.slice A31 y29.1.f2.length c32) y29.1.f2, Blk b28 [.int .i64 y23.1.f0, .int .i64 y23.1.f1, .slice A25 y23.1.f2.length c26] 24]) [1, 2, 3, 4, 5] 6 rfl rfl rfl) ?_
    refine TA.not 20 rfl (by kernel_rfl) rfl (PQ.then_ PQ.body) (Wt.no rfl rfl rfl rfl) (fun W hO => (hb349 _ _ hO).selT (Ls := [Row k24 24 (.slice A3 y1.f2.length c4) y1.f2, Row k36 36 (.slice (some ⟨b14, 0, none⟩) 1 1) ([(⟨5, (⟨#[]⟩ : ByteArray), 0, ([] : List S36)⟩ : S36)] : List S36), Blk b34 [.int .i64 y29.1.f0, .int .i64 y29.1.f1, .slice A31 y29.1.f2.length c32] 24, Row k24 24 (.slice A31 y29.1.f2.length c32) y29.1.f2, Blk b28 [.int .i64 y23.1.f0, .int .i64 y23.1.f1, .slice A25 y23.1.f2.length c26] 24]) [1, 2, 3, 4, 5] 6 rfl rfl rfl) ?_
    refine TA.not 21 rfl (by kernel_rfl) rfl (PQ.then_ PQ.body) (Wt.no rfl rfl rfl rfl) (fun W hO => (hb349 _ _ hO).selT (Ls := [Row k24 24 (.slice A3 y1.f2.length c4) y1.f2, Row k36 36 (.slice (some ⟨b14, 0, none⟩) 1 1) ([(⟨5, (⟨#[]⟩ : ByteArray), 0, ([] : List S36)⟩ : S36)] : List S36), Blk b34 [.int .i64 y29.1.f0, .int .i64 y29.1.f1, .slice A31 y29.1.f2.length c32] 24, Row k24 24 (.slice A31 y29.1.f2.length c32) y29.1.f2, Blk b28 [.int .i64 y23.1.f0, .int .i64 y23.1.f1, .slice A25 y23.1.f2.length c26] 24]) [1, 2, 3, 4, 5] 6 rfl rfl rfl) ?_
    refine TA.take 22 rfl (by kernel_rfl) rfl (PQ.then_ PQ.body) rfl (Val.pickN rfl rfl rfl) (fun W hO => (hb349 _ _ hO).selT (Ls := [Row k24 24 (.slice A3 y1.f2.length c4) y1.f2, Row k36 36 (.slice (some ⟨b14, 0, none⟩) 1 1) ([(⟨5, (⟨#[]⟩ : ByteArray), 0, ([] : List S36)⟩ : S36)] : List S36), Blk b34 [.int .i64 y29.1.f0, .int .i64 y29.1.f1, .slice A31 y29.1.f2.length c32] 24, Row k24 24 (.slice A31 y29.1.f2.length c32) y29.1.f2, Blk b28 [.int .i64 y23.1.f0, .int .i64 y23.1.f1, .slice A25 y23.1.f2.length c26] 24]) [1, 2, 3, 4, 5] 6 rfl rfl rfl) ?_
    refine TA.take 23 rfl (by kernel_rfl) rfl (PQ.then_ PQ.body) rfl (Val.move rfl) (fun W hO => (hb349 _ _ hO).selT (Ls := [Row k24 24 (.slice A3 y1.f2.length c4) y1.f2, Row k36 36 (.slice (some ⟨b14, 0, none⟩) 1 1) ([(⟨5, (⟨#[]⟩ : ByteArray), 0, ([] : List S36)⟩ : S36)] : List S36), Blk b34 [.int .i64 y29.1.f0, .int .i64 y29.1.f1, .slice A31 y29.1.f2.length c32] 24, Row k24 24 (.slice A31 y29.1.f2.length c32) y29.1.f2, Blk b28 [.int .i64 y23.1.f0, .int .i64 y23.1.f1, .slice A25 y23.1.f2.length c26] 24]) [1, 2, 3, 4, 5] 6 rfl rfl rfl) ?_
    refine TA.not 24 rfl (by kernel_rfl) rfl (PQ.then_ PQ.body) (Wt.no rfl rfl rfl rfl) (fun W hO => (hb349 _ _ hO).selT (Ls := [Row k24 24 (.slice A3 y1.f2.length c4) y1.f2, Row k36 36 (.slice (some ⟨b14, 0, none⟩) 1 1) ([(⟨5, (⟨#[]⟩ : ByteArray), 0, ([] : List S36)⟩ : S36)] : List S36), Blk b34 [.int .i64 y29.1.f0, .int .i64 y29.1.f1, .slice A31 y29.1.f2.length c32] 24, Row k24 24 (.slice A31 y29.1.f2.length c32) y29.1.f2, Blk b28 [.int .i64 y23.1.f0, .int .i64 y23.1.f1, .slice A25 y23.1.f2.length c26] 24]) [1, 2, 3, 4, 5] 6 rfl rfl rfl) ?_
    refine TA.not 25 rfl (by kernel_rfl) rfl (PQ.then_ PQ.body) (Wt.no rfl rfl rfl rfl) (fun W hO => (hb349 _ _ hO).selT (Ls := [Row k24 24 (.slice A3 y1.f2.length c4) y1.f2, Row k36 36 (.slice (some ⟨b14, 0, none⟩) 1 1) ([(⟨5, (⟨#[]⟩ : ByteArray), 0, ([] : List S36)⟩ : S36)] : List S36), Blk b34 [.int .i64 y29.1.f0, .int .i64 y29.1.f1, .slice A31 y29.1.f2.length c32] 24, Row k24 24 (.slice A31 y29.1.f2.length c32) y29.1.f2, Blk b28 [.int .i64 y23.1.f0, .int .i64 y23.1.f1, .slice A25 y23.1.f2.length c26] 24]) [1, 2, 3, 4, 5] 6 rfl rfl rfl) ?_
    refine TA.not 26 rfl (by kernel_rfl) rfl (PQ.then_ PQ.body) (Wt.no rfl rfl rfl rfl) (fun W hO => (hb349 _ _ hO).selT (Ls := [Row k24 24 (.slice A3 y1.f2.length c4) y1.f2, Row k36 36 (.slice (some ⟨b14, 0, none⟩) 1 1) ([(⟨5, (⟨#[]⟩ : ByteArray), 0, ([] : List S36)⟩ : S36)] : List S36), Blk b34 [.int .i64 y29.1.f0, .int .i64 y29.1.f1, .slice A31 y29.1.f2.length c32] 24, Row k24 24 (.slice A31 y29.1.f2.length c32) y29.1.f2, Blk b28 [.int .i64 y23.1.f0, .int .i64 y23.1.f1, .slice A25 y23.1.f2.length c26] 24]) [1, 2, 3, 4, 5] 6 rfl rfl rfl) ?_
    refine TA.not 27 rfl (by kernel_rfl) rfl (PQ.then_ PQ.body) (Wt.no rfl rfl rfl rfl) (fun W hO => (hb349 _ _ hO).selT (Ls := [Row k24 24 (.slice A3 y1.f2.length c4) y1.f2, Row k36 36 (.slice (some ⟨b14, 0, none⟩) 1 1) ([(⟨5, (⟨#[]⟩ : ByteArray), 0, ([] : List S36)⟩ : S36)] : List S36), Blk b34 [.int .i64 y29.1.f0, .int .i64 y29.1.f1, .slice A31 y29.1.f2.length c32] 24, Row k24 24 (.slice A31 y29.1.f2.length c32) y29.1.f2, Blk b28 [.int .i64 y23.1.f0, .int .i64 y23.1.f1, .slice A25 y23.1.f2.length c26] 24]) [1, 2, 3, 4, 5] 6 rfl rfl rfl) ?_
    refine TA.take 28 rfl (by kernel_rfl) rfl (PQ.then_ PQ.body) rfl (Val.pickN rfl rfl rfl) (fun W hO => (hb349 _ _ hO).selT (Ls := [Row k24 24 (.slice A3 y1.f2.length c4) y1.f2, Row k36 36 (.slice (some ⟨b14, 0, none⟩) 1 1) ([(⟨5, (⟨#[]⟩ : ByteArray), 0, ([] : List S36)⟩ : S36)] : List S36), Blk b34 [.int .i64 y29.1.f0, .int .i64 y29.1.f1, .slice A31 y29.1.f2.length c32] 24, Row k24 24 (.slice A31 y29.1.f2.length c32) y29.1.f2, Blk b28 [.int .i64 y23.1.f0, .int .i64 y23.1.f1, .slice A25 y23.1.f2.length c26] 24]) [1, 2, 3, 4, 5] 6 rfl rfl rfl) ?_
    refine TA.take 29 rfl (by kernel_rfl) rfl (PQ.then_ PQ.body) rfl (Val.move rfl) (fun W hO => (hb349 _ _ hO).selT (Ls := [Row k24 24 (.slice A3 y1.f2.length c4) y1.f2, Row k36 36 (.slice (some ⟨b14, 0, none⟩) 1 1) ([(⟨5, (⟨#[]⟩ : ByteArray), 0, ([] : List S36)⟩ : S36)] : List S36), Blk b34 [.int .i64 y29.1.f0, .int .i64 y29.1.f1, .slice A31 y29.1.f2.length c32] 24, Row k24 24 (.slice A31 y29.1.f2.length c32) y29.1.f2, Blk b28 [.int .i64 y23.1.f0, .int .i64 y23.1.f1, .slice A25 y23.1.f2.length c26] 24]) [1, 2, 3, 4, 5] 6 rfl rfl rfl) ?_
    refine TA.not 30 rfl (by kernel_rfl) rfl (PQ.then_ PQ.body) (Wt.no rfl rfl rfl rfl) (fun W hO => (hb349 _ _ hO).selT (Ls := [Row k24 24 (.slice A3 y1.f2.length c4) y1.f2, Row k36 36 (.slice (some ⟨b14, 0, none⟩) 1 1) ([(⟨5, (⟨#[]⟩ : ByteArray), 0, ([] : List S36)⟩ : S36)] : List S36), Blk b34 [.int .i64 y29.1.f0, .int .i64 y29.1.f1, .slice A31 y29.1.f2.length c32] 24, Row k24 24 (.slice A31 y29.1.f2.length c32) y29.1.f2, Blk b28 [.int .i64 y23.1.f0, .int .i64 y23.1.f1, .slice A25 y23.1.f2.length c26] 24]) [1, 2, 3, 4, 5] 6 rfl rfl rfl) ?_
    refine TA.not 31 rfl (by kernel_rfl) rfl (PQ.then_ PQ.body) (Wt.no rfl rfl rfl rfl) (fun W hO => (hb349 _ _ hO).selT (Ls := [Row k24 24 (.slice A3 y1.f2.length c4) y1.f2, Row k36 36 (.slice (some ⟨b14, 0, none⟩) 1 1) ([(⟨5, (⟨#[]⟩ : ByteArray), 0, ([] : List S36)⟩ : S36)] : List S36), Blk b34 [.int .i64 y29.1.f0, .int .i64 y29.1.f1, .slice A31 y29.1.f2.length c32] 24, Row k24 24 (.slice A31 y29.1.f2.length c32) y29.1.f2, Blk b28 [.int .i64 y23.1.f0, .int .i64 y23.1.f1, .slice A25 y23.1.f2.length c26] 24]) [1, 2, 3, 4, 5] 6 rfl rfl rfl) ?_
    refine TA.take 32 rfl (by kernel_rfl) rfl (PQ.then_ PQ.body) rfl (Val.pickN rfl rfl rfl) (fun W hO => (hb349 _ _ hO).selT (Ls := [Row k24 24 (.slice A3 y1.f2.length c4) y1.f2, Row k36 36 (.slice (some ⟨b14, 0, none⟩) 1 1) ([(⟨5, (⟨#[]⟩ : ByteArray), 0, ([] : List S36)⟩ : S36)] : List S36), Blk b34 [.int .i64 y29.1.f0, .int .i64 y29.1.f1, .slice A31 y29.1.f2.length c32] 24, Row k24 24 (.slice A31 y29.1.f2.length c32) y29.1.f2, Blk b28 [.int .i64 y23.1.f0, .int .i64 y23.1.f1, .slice A25 y23.1.f2.length c26] 24]) [1, 2, 3, 4, 5] 6 rfl rfl rfl) ?_
    refine TA.take 33 rfl (by kernel_rfl) rfl (PQ.then_ PQ.body) rfl (Val.move rfl) (fun W hO => (hb349 _ _ hO).selT (Ls := [Row k24 24 (.slice A3 y1.f2.length c4) y1.f2, Row k36 36 (.slice (some ⟨b14, 0, none⟩) 1 1) ([(⟨5, (⟨#[]⟩ : ByteArray), 0, ([] : List S36)⟩ : S36)] : List S36), Blk b34 [.int .i64 y29.1.f0, .int .i64 y29.1.f1, .slice A31 y29.1.f2.length c32] 24, Row k24 24 (.slice A31 y29.1.f2.length c32) y29.1.f2, Blk b28 [.int .i64 y23.1.f0, .int .i64 y23.1.f1, .slice A25 y23.1.f2.length c26] 24]) [1, 2, 3, 4, 5] 6 rfl rfl rfl) ?_
    refine TA.not 34 rfl (by kernel_rfl) rfl (PQ.then_ PQ.body) (Wt.no rfl rfl rfl rfl) (fun W hO => (hb349 _ _ hO).selT (Ls := [Row k24 24 (.slice A3 y1.f2.length c4) y1.f2, Row k36 36 (.slice (some ⟨b14, 0, none⟩) 1 1) ([(⟨5, (⟨#[]⟩ : ByteArray), 0, ([] : List S36)⟩ : S36)] : List S36), Blk b34 [.int .i64 y29.1.f0, .int .i64 y29.1.f1, .slice A31 y29.1.f2.length c32] 24, Row k24 24 (.slice A31 y29.1.f2.length c32) y29.1.f2, Blk b28 [.int .i64 y23.1.f0, .int .i64 y23.1.f1, .slice A25 y23.1.f2.length c26] 24]) [1, 2, 3, 4, 5] 6 rfl rfl rfl) ?_
    refine TA.not 35 rfl (by kernel_rfl) rfl (PQ.then_ PQ.body) (Wt.no rfl rfl rfl rfl) (fun W hO => (hb349 _ _ hO).selT (Ls := [Row k24 24 (.slice A3 y1.f2.length c4) y1.f2, Row k36 36 (.slice (some ⟨b14, 0, none⟩) 1 1) ([(⟨5, (⟨#[]⟩ : ByteArray), 0, ([] : List S36)⟩ : S36)] : List S36), Blk b34 [.int .i64 y29.1.f0, .int .i64 y29.1.f1, .slice A31 y29.1.f2.length c32] 24, Row k24 24 (.slice A31 y29.1.f2.length c32) y29.1.f2, Blk b28 [.int .i64 y23.1.f0, .int .i64 y23.1.f1, .slice A25 y23.1.f2.length c26] 24]) [1, 2, 3, 4, 5] 6 rfl rfl rfl) ?_
    refine TA.take 36 rfl (by kernel_rfl) rfl (PQ.then_ PQ.body) rfl (Val.pickN rfl rfl rfl) (fun W hO => (hb349 _ _ hO).selT (Ls := [Row k24 24 (.slice A3 y1.f2.length c4) y1.f2, Row k36 36 (.slice (some ⟨b14, 0, none⟩) 1 1) ([(⟨5, (⟨#[]⟩ : ByteArray), 0, ([] : List S36)⟩ : S36)] : List S36), Blk b34 [.int .i64 y29.1.f0, .int .i64 y29.1.f1, .slice A31 y29.1.f2.length c32] 24, Row k24 24 (.slice A31 y29.1.f2.length c32) y29.1.f2, Blk b28 [.int .i64 y23.1.f0, .int .i64 y23.1.f1, .slice A25 y23.1.f2.length c26] 24]) [1, 2, 3, 4, 5] 6 rfl rfl rfl) ?_
    refine TA.take 37 rfl (by kernel_rfl) rfl (PQ.then_ PQ.body) rfl (Val.move rfl) (fun W hO => (hb349 _ _ hO).selT (Ls := [Row k24 24 (.slice A3 y1.f2.length c4) y1.f2, Row k36 36 (.slice (some ⟨b14, 0, none⟩) 1 1) ([(⟨5, (⟨#[]⟩ : ByteArray), 0, ([] : List S36)⟩ : S36)] : List S36), Blk b34 [.int .i64 y29.1.f0, .int .i64 y29.1.f1, .slice A31 y29.1.f2.length c32] 24, Row k24 24 (.slice A31 y29.1.f2.length c32) y29.1.f2, Blk b28 [.int .i64 y23.1.f0, .int .i64 y23.1.f1, .slice A25 y23.1.f2.length c26] 24]) [1, 2, 3, 4, 5] 6 rfl rfl rfl) ?_
    refine TA.not 38 rfl (by kernel_rfl) rfl (PQ.then_ PQ.body) (Wt.no rfl rfl rfl rfl) (fun W hO => (hb349 _ _ hO).selT (Ls := [Row k24 24 (.slice A3 y1.f2.length c4) y1.f2, Row k36 36 (.slice (some ⟨b14, 0, none⟩) 1 1) ([(⟨5, (⟨#[]⟩ : ByteArray), 0, ([] : List S36)⟩ : S36)] : List S36), Blk b34 [.int .i64 y29.1.f0, .int .i64 y29.1.f1, .slice A31 y29.1.f2.length c32] 24, Row k24 24 (.slice A31 y29.1.f2.length c32) y29.1.f2, Blk b28 [.int .i64 y23.1.f0, .int .i64 y23.1.f1, .slice A25 y23.1.f2.length c26] 24]) [1, 2, 3, 4, 5] 6 rfl rfl rfl) ?_
    refine TA.not 39 rfl (by kernel_rfl) rfl (PQ.then_ PQ.body) (Wt.no rfl rfl rfl rfl) (fun W hO => (hb349 _ _ hO).selT (Ls := [Row k24 24 (.slice A3 y1.f2.length c4) y1.f2, Row k36 36 (.slice (some ⟨b14, 0, none⟩) 1 1) ([(⟨5, (⟨#[]⟩ : ByteArray), 0, ([] : List S36)⟩ : S36)] : List S36), Blk b34 [.int .i64 y29.1.f0, .int .i64 y29.1.f1, .slice A31 y29.1.f2.length c32] 24, Row k24 24 (.slice A31 y29.1.f2.length c32) y29.1.f2, Blk b28 [.int .i64 y23.1.f0, .int .i64 y23.1.f1, .slice A25 y23.1.f2.length c26] 24]) [1, 2, 3, 4, 5] 6 rfl rfl rfl) ?_
    refine TA.not 40 rfl (by kernel_rfl) rfl (PQ.then_ PQ.body) (Wt.no rfl rfl rfl rfl) (fun W hO => (hb349 _ _ hO).selT (Ls := [Row k24 24 (.slice A3 y1.f2.length c4) y1.f2, Row k36 36 (.slice (some ⟨b14, 0, none⟩) 1 1) ([(⟨5, (⟨#[]⟩ : ByteArray), 0, ([] : List S36)⟩ : S36)] : List S36), Blk b34 [.int .i64 y29.1.f0, .int .i64 y29.1.f1, .slice A31 y29.1.f2.length c32] 24, Row k24 24 (.slice A31 y29.1.f2.length c32) y29.1.f2, Blk b28 [.int .i64 y23.1.f0, .int .i64 y23.1.f1, .slice A25 y23.1.f2.length c26] 24]) [1, 2, 3, 4, 5] 6 rfl rfl rfl) ?_
    refine TA.take 41 rfl (by kernel_rfl) rfl (PQ.then_ PQ.body) rfl (Val.pickN rfl rfl rfl) (fun W hO => (hb349 _ _ hO).selT (Ls := [Row k24 24 (.slice A3 y1.f2.length c4) y1.f2, Row k36 36 (.slice (some ⟨b14, 0, none⟩) 1 1) ([(⟨5, (⟨#[]⟩ : ByteArray), 0, ([] : List S36)⟩ : S36)] : List S36), Blk b34 [.int .i64 y29.1.f0, .int .i64 y29.1.f1, .slice A31 y29.1.f2.length c32] 24, Row k24 24 (.slice A31 y29.1.f2.length c32) y29.1.f2, Blk b28 [.int .i64 y23.1.f0, .int .i64 y23.1.f1, .slice A25 y23.1.f2.length c26] 24]) [1, 2, 3, 4, 5] 6 rfl rfl rfl) ?_
    refine TA.take 42 rfl (by kernel_rfl) rfl (PQ.then_ PQ.body) rfl (Val.assign rfl) (fun W hO => (hb349 _ _ hO).selT (Ls := [Row k24 24 (.slice A3 y1.f2.length c4) y1.f2, Row k36 36 (.slice (some ⟨b14, 0, none⟩) 1 1) ([(⟨5, (⟨#[]⟩ : ByteArray), 0, ([] : List S36)⟩ : S36)] : List S36), Blk b34 [.int .i64 y29.1.f0, .int .i64 y29.1.f1, .slice A31 y29.1.f2.length c32] 24, Row k24 24 (.slice A31 y29.1.f2.length c32) y29.1.f2, Blk b28 [.int .i64 y23.1.f0, .int .i64 y23.1.f1, .slice A25 y23.1.f2.length c26] 24]) [1, 2, 3, 4, 5] 6 rfl rfl rfl) ?_
    refine TA.done (by kernel_rfl) ?_
    refine TQ.then_ ?_
    refine TC.ret ?_
    refine TQ.back hb349 ?_
    refine TQ.back hb338 ?_
    obtain rfl := Option.some.inj h
    exact TQ.fin (.inl rfl) rfl Tryd.results7 (.tmp rfl .nil) rfl (FRel.mk (Ls := []) [] 7 (Gd.le.refl _) rfl rfl rfl ⟨rfl, rfl, rfl⟩)
end Go.Proofs.YtdklnjmdaecboaaDoor.Sy
namespace Go.Proofs.YtdklnjmdaecboaaDoor.Sy
open Go Go.RowKit Go.Proofs.YtdklnjmdaecboaaDoorW.PrintWords
theorem small_true : swagelaw11_small.f = some true := by decide +kernel
end Go.Proofs.YtdklnjmdaecboaaDoor.Sy
set_option linter.unusedVariables false
set_option linter.unusedSimpArgs false
set_option maxRecDepth 100000
set_option maxHeartbeats 4000000
namespace Go.Proofs.YtdklnjmdaecboaaDoor.Sy
open Go Go.RowKit Go.Proofs.YtdklnjmdaecboaaDoorW.PrintWords 
def swagelaw10_count.post (G : Gd) (r : Int) (v : Value) (G' : Gd) (Lr : List Ch) : Prop := G = G' ∧ v = .int .i64 r ∧ Lr = []
def swagelaw10_count.l0 (rec38 : (S36 → Int → Int → Option Int)) (a0 : S36) (a1 : Int) (a2 : Int) : Nat → Int → Int → Option (Sum Int (Int))
  | 0, _, _ => none
  | n144 + 1, x96, x97 => jn (γ := (Sum Int (Int))) (fun (x192 : Bool) => (if x192 = true then (if a2 < 1 then some (.inl (IntKind.i64.wrap (a1 + 1))) else (at? a0.f3 x97).bind fun y215 => (rec38 y215 a1 (IntKind.i64.wrap (a2 - 1))).bind fun (y228 : Int) => swagelaw10_count.l0 rec38 a0 a1 a2 n144 (IntKind.i64.wrap (x96 + y228)) (IntKind.i64.wrap (x97 + 1))) else some (.inr x96))) (fun (j193 : (Bool → Option (Sum Int (Int)))) => (if x97 < (a0.f3.length : Int) then j193 (decide (x96 ≤ a1)) else j193 false))
def swagelaw10_count.g (rec38 : (S36 → Int → Int → Option Int)) (a0 : S36) (a1 : Int) (a2 : Int) : Option Int := (swagelaw10_count.l0 rec38 a0 a1 a2 (a0.f3.length + 1) 1 0).bind fun | .inl q_ => some q_ | .inr x142 => (some x142)
theorem swagelaw10_count.step (rec38 : (S36 → Int → Int → Option Int)) (ih38 : ∀ {G : Gd} {r : Int} {a0 : S36} {a1 : Int} {a2 : Int} {A1 : Option Addr} {c2 : Nat} (hr3 : Rd G k36 A1 a0.f3) (hl4 : a0.f3.length ≤ c2), rec38 a0 a1 a2 = some r → Fn Tryd.prog 38 G [] [.agg #[.int .i64 a0.f0, .string a0.f1, .int .i64 a0.f2, .slice A1 a0.f3.length c2], .int .i64 a1, .int .i64 a2] (swagelaw10_count.post G r)) {G : Gd} {r : Int} {a0 : S36} {a1 : Int} {a2 : Int} {A1 : Option Addr} {c2 : Nat} (hr3 : Rd G k36 A1 a0.f3) (hl4 : a0.f3.length ≤ c2) (h : swagelaw10_count.g rec38 a0 a1 a2 = some r) : Fn Tryd.prog 38 G [] [.agg #[.int .i64 a0.f0, .string a0.f1, .int .i64 a0.f2, .slice A1 a0.f3.length c2], .int .i64 a1, .int .i64 a2] (swagelaw10_count.post G r) := by
  refine Fn.intro (e := [(0, .agg #[.int .i64 a0.f0, .string a0.f1, .int .i64 a0.f2, .slice A1 a0.f3.length c2]), (1, .int .i64 a1), (2, .int .i64 a2)]) 37 Tryd.func38 rfl Tryd.ntmps38 rfl rfl (Nat.le_of_ble_eq_true rfl) (fun L => ?_)
  unfold swagelaw10_count.g at h
  refine TC.seq ?_
  refine TC.region ?_
  refine TL.cons (TL.box (cs := [.int .i64 a0.f0, .string a0.f1, .int .i64 a0.f2, .slice A1 a0.f3.length c2]) rfl rfl rfl rfl (fun b5 => ?_))
  refine TL.cons (TO.val rfl rfl rfl (Val.assign rfl) ?_)
  refine TL.nil ?_
  refine TQ.then_ ?_
  refine TC.seq ?_
  refine TC.region ?_
  refine TL.cons (TO.val rfl rfl rfl (Val.assign rfl) ?_)
  refine TL.nil ?_
  refine TQ.then_ ?_
  refine TC.seq ?_
  refine TC.seq ?_
  refine TC.region ?_
  refine TL.cons (TO.val rfl rfl rfl (Val.assign rfl) ?_)
  refine TL.nil ?_
  refine TQ.then_ ?_
  obtain ⟨o143, ho143, ko143⟩ := bind_no h
  clear h
  refine TC.tail (fun a W => ∃ (x142 : Int), (.inr x142) = o143 ∧ Fr 37 a [(7, .int .i64 x142)] ∧ Own G (L) W) ?_ ?_
  · rintro a W ⟨x142, rfl, hF, hO⟩
    have h := ko143
    clear ko143 ho143
    refine TQ.use ?_ hF hO
    clear hF hO
    refine TQ.then_ ?_
    refine TC.seq ?_
    refine TC.region ?_
    refine TL.cons (TO.val rfl rfl rfl (Val.move rfl) ?_)
    refine TL.cons (TO.val rfl rfl rfl (Val.assign rfl) ?_)
    refine TL.nil ?_
    refine TQ.then_ ?_
    refine TC.ret ?_
    obtain rfl := Option.some.inj h
    exact TQ.fin (.inl rfl) rfl Tryd.results38 (.tmp rfl .nil) rfl (FRel.mk (Ls := []) [] 0 (Gd.le.refl _) rfl rfl rfl ⟨rfl, rfl, rfl⟩)
  · refine TC.block ?_
    intro a W hF hO
    have hS : ∃ (x96 : Int) (x97 : Int), swagelaw10_count.l0 rec38 a0 a1 a2 (a0.f3.length + 1) x96 x97 = some o143 ∧ Fr 37 a [(1, .int .i64 a1), (2, .int .i64 a2), (3, .pointer (some ⟨b5, 0, none⟩)), (7, .int .i64 x96), (8, .int .i64 x97)] ∧ Own G (Blk b5 [.int .i64 a0.f0, .string a0.f1, .int .i64 a0.f2, .slice A1 a0.f3.length c2] 36 :: L) W := by
      exact ⟨1, 0, ho143, hF.sub ⟨rfl, rfl, rfl, rfl, rfl, trivial⟩, hO.selT (Ls := [Blk b5 [.int .i64 a0.f0, .string a0.f1, .int .i64 a0.f2, .slice A1 a0.f3.length c2] 36]) [0] 1 rfl rfl rfl⟩
    clear hF hO ho143
    refine TC.loop (fun n144 a W => ∃ (x96 : Int) (x97 : Int), swagelaw10_count.l0 rec38 a0 a1 a2 n144 x96 x97 = some o143 ∧ Fr 37 a [(1, .int .i64 a1), (2, .int .i64 a2), (3, .pointer (some ⟨b5, 0, none⟩)), (7, .int .i64 x96), (8, .int .i64 x97)] ∧ Own G (Blk b5 [.int .i64 a0.f0, .string a0.f1, .int .i64 a0.f2, .slice A1 a0.f3.length c2] 36 :: L) W) ?_ ?_ hS
    · rintro a W ⟨x96, x97, h, hF, hO⟩
      exact none_no h
    · clear hS
      rintro n144 a W ⟨x96, x97, h, hF, hO⟩
      rw [swagelaw10_count.l0] at h
      refine TC.use ?_ hF hO
      clear hF hO
      refine TC.seq ?_
      refine TC.seq ?_
      obtain ⟨j193, hj193, h⟩ := jn_no h
      refine TC.tail (fun a W => ∃ (x192 : Bool), j193 x192 = some o143 ∧ Fr 37 a [(1, .int .i64 a1), (2, .int .i64 a2), (3, .pointer (some ⟨b5, 0, none⟩)), (7, .int .i64 x96), (8, .int .i64 x97), (18, .bool x192)] ∧ Own G (Blk b5 [.int .i64 a0.f0, .string a0.f1, .int .i64 a0.f2, .slice A1 a0.f3.length c2] 36 :: L) W) ?_ ?_
      · rintro a W ⟨x192, h, hF, hO⟩
        rw [hj193] at h
        refine TQ.use ?_ hF hO
        clear hF hO
        refine TQ.then_ ?_
        refine TC.cond_b rfl h (fun hc195 h => ?_) (fun hc195 h => ?_)
        · refine TC.skip ?_
          refine TQ.then_ ?_
          refine TC.seq ?_
          refine TC.block ?_
          refine TC.seq ?_
          refine TC.seq ?_
          refine TC.region ?_
          refine TL.cons (TO.val rfl rfl rfl (Val.move rfl) ?_)
          refine TL.cons (TO.val rfl rfl rfl (Val.cmp rfl rfl run_lss) ?_)
          refine TL.nil ?_
          refine TQ.then_ ?_
          refine TC.cond_p rfl h (fun hc214 h => ?_) (fun hc214 h => ?_)
          · refine TC.seq ?_
            refine TC.region ?_
            refine TL.cons (TO.val rfl rfl rfl (Val.move rfl) ?_)
            refine TL.cons (TO.val rfl rfl rfl (Val.cmp rfl rfl run_add) ?_)
            refine TL.cons (TO.val rfl rfl rfl (Val.assign rfl) ?_)
            refine TL.nil ?_
            refine TQ.then_ ?_
            refine TC.ret ?_
            refine TQ.thenR ?_
            refine TQ.inBR ?_
            refine TQ.thenR ?_
            refine TQ.thenR ?_
            refine TQ.inBR ?_
            refine TQ.thenR ?_
            refine TQ.thenR ?_
            obtain rfl := Option.some.inj h
            have h := ko143
            obtain rfl := Option.some.inj h
            exact TQ.fin (.inl rfl) rfl Tryd.results38 (.tmp rfl .nil) rfl (FRel.mk (Ls := []) [] 1 (Gd.le.refl _) rfl rfl rfl ⟨rfl, rfl, rfl⟩)
          · refine TC.skip ?_
            refine TQ.then_ ?_
            refine TC.region ?_
            refine TL.cons (TO.val rfl rfl rfl (Val.move rfl) ?_)
            refine TL.cons (TO.val rfl rfl rfl (Val.fieldAddrB Tryd.underlying36 rfl fsz34 rfl rfl rfl) ?_)
            refine TL.cons (TO.val rfl rfl rfl (Val.loadB 0 agg34 rfl rfl rfl) ?_)
            refine TL.cons (TO.val rfl rfl rfl (Val.move rfl) ?_)
            obtain ⟨y215, hx216, h⟩ := bind_no h
            obtain ⟨ad217, cs223, hA218, hi219, hj220, hcl221, hK222⟩ := Rd.at hr3 hx216
            obtain ⟨A224, c225, rfl, hr226, hl227⟩ := k36_openR hK222
            refine TL.cons (TO.val rfl rfl rfl (Val.indexAddr Tryd.underlying34 fsz36 rfl hA218 rfl hi219 hj220) ?_)
            refine TL.cons (TO.val rfl rfl rfl (Val.loadsS (cs := [.int .i64 y215.f0, .string y215.f1, .int .i64 y215.f2, .slice A224 y215.f3.length c225]) agg36 fsz36 rfl rfl (Cl.sub (off := 0) (n := 4) hcl221 rfl)) ?_)
            refine TL.cons (TO.val rfl rfl rfl (Val.move rfl) ?_)
            refine TL.cons (TO.val rfl rfl rfl (Val.move rfl) ?_)
            refine TL.cons (TO.val rfl rfl rfl (Val.cmp rfl rfl run_sub) ?_)
            obtain ⟨y228, hy229, h⟩ := bind_no h
            refine TL.cons (TL.callV (Lin := []) (args := [.agg #[.int .i64 y215.f0, .string y215.f1, .int .i64 y215.f2, .slice A224 y215.f3.length c225], .int .i64 a1, .int .i64 (IntKind.i64.wrap (a2 - 1))]) rfl rfl rfl hbd38 rfl rfl (ih38 (a0 := y215) (a1 := a1) (a2 := IntKind.i64.wrap (a2 - 1)) hr226 hl227 hy229) rfl ?_)
            rintro _ _ _ _ ⟨rfl, rfl, rfl⟩
            refine TL.cons (TO.val rfl rfl rfl (Val.cmp rfl rfl run_add) ?_)
            refine TL.cons (TO.val rfl rfl rfl (Val.assign rfl) ?_)
            refine TL.nil ?_
            refine TQ.inB ?_
            refine TQ.then_ ?_
            refine TC.region ?_
            refine TL.cons (TO.val rfl rfl rfl (Val.move rfl) ?_)
            refine TL.cons (TO.val rfl rfl rfl (Val.cmp rfl rfl run_add) ?_)
            refine TL.cons (TO.val rfl rfl rfl (Val.assign rfl) ?_)
            refine TL.nil ?_
            exact fun a W hF hO => ⟨IntKind.i64.wrap (x96 + y228), IntKind.i64.wrap (x97 + 1), h, hF.sub ⟨rfl, rfl, rfl, rfl, rfl, trivial⟩, hO.selT (Ls := [Blk b5 [.int .i64 a0.f0, .string a0.f1, .int .i64 a0.f2, .slice A1 a0.f3.length c2] 36]) [0] 1 rfl rfl rfl⟩
        · refine TC.exit ?_
          refine TQ.thenX ?_
          refine TQ.thenX ?_
          refine TQ.inBX ?_
          exact fun a W hF hO => ⟨x96, Option.some.inj h, hF.sub ⟨rfl, trivial⟩, hO.selT (Ls := []) [] 1 rfl rfl rfl⟩
      · refine TC.region ?_
        refine TL.cons (TO.val rfl rfl rfl (Val.move rfl) ?_)
        refine TL.cons (TO.val rfl rfl rfl (Val.fieldAddrB Tryd.underlying36 rfl fsz34 rfl rfl rfl) ?_)
        refine TL.cons (TO.val rfl rfl rfl (Val.loadB 0 agg34 rfl rfl rfl) ?_)
        refine TL.cons (TO.val rfl rfl rfl (Val.len Tryd.underlying34 rfl) ?_)
        refine TL.cons (TO.val rfl rfl rfl (Val.cmp rfl rfl run_lss) ?_)
        refine TL.cons (TO.val rfl rfl rfl (Val.move rfl) ?_)
        refine TK.split (p := x97 < (a0.f3.length : Int)) h (fun hg230 h => ?_) (fun hg230 h => ?_)
        · have hk231 : decide (x97 < (a0.f3.length : Int)) = true := decide_eq_true hg230
          refine TL.cons (TO.val (Wt.yes rfl rfl rfl hk231) rfl rfl (Val.move rfl) ?_)
          refine TL.cons (TO.val (Wt.yes rfl rfl rfl hk231) rfl rfl (Val.move rfl) ?_)
          refine TL.cons (TO.val (Wt.yes rfl rfl rfl hk231) rfl rfl (Val.cmp rfl rfl run_leq) ?_)
          refine TL.cons (TO.val rfl rfl rfl (Val.pickY rfl hk231 rfl) ?_)
          refine TL.nil ?_
          exact fun a W hF hO => ⟨decide (x96 ≤ a1), h, hF.sub ⟨rfl, rfl, rfl, rfl, rfl, rfl, trivial⟩, hO.selT (Ls := [Blk b5 [.int .i64 a0.f0, .string a0.f1, .int .i64 a0.f2, .slice A1 a0.f3.length c2] 36]) [0] 1 rfl rfl rfl⟩
        · have hk232 : decide (x97 < (a0.f3.length : Int)) = false := decide_eq_false hg230
          refine TL.cons (TL.not (Wt.no rfl rfl rfl hk232) rfl ?_)
          refine TL.cons (TL.not (Wt.no rfl rfl rfl hk232) rfl ?_)
          refine TL.cons (TL.not (Wt.no rfl rfl rfl hk232) rfl ?_)
          refine TL.cons (TO.val rfl rfl rfl (Val.pickN rfl hk232 rfl) ?_)
          refine TL.nil ?_
          exact fun a W hF hO => ⟨false, h, hF.sub ⟨rfl, rfl, rfl, rfl, rfl, rfl, trivial⟩, hO.selT (Ls := [Blk b5 [.int .i64 a0.f0, .string a0.f1, .int .i64 a0.f2, .slice A1 a0.f3.length c2] 36]) [0] 1 rfl rfl rfl⟩
def swagelaw10_count.fix : Nat → (S36 → Int → Int → Option Int)
  | 0 => (fun _ _ _ => none)
  | n + 1 => swagelaw10_count.g (swagelaw10_count.fix n)
theorem swagelaw10_count.fixc : ∀ k, (∀ {G : Gd} {r : Int} {a0 : S36} {a1 : Int} {a2 : Int} {A1 : Option Addr} {c2 : Nat} (hr3 : Rd G k36 A1 a0.f3) (hl4 : a0.f3.length ≤ c2), (swagelaw10_count.fix k) a0 a1 a2 = some r → Fn Tryd.prog 38 G [] [.agg #[.int .i64 a0.f0, .string a0.f1, .int .i64 a0.f2, .slice A1 a0.f3.length c2], .int .i64 a1, .int .i64 a2] (swagelaw10_count.post G r)) ∧ True
  | 0 => ⟨(by intros; contradiction), trivial⟩
  | k + 1 => by
    have ih := swagelaw10_count.fixc k
    exact ⟨(by
      intro G r a0 a1 a2 A1 c2 hr3 hl4 h
      exact swagelaw10_count.step _ ih.1 hr3 hl4 h), trivial⟩
def swagelaw10_count.f (a0 : S36) (a1 : Int) (a2 : Int) : Option Int := (swagelaw10_count.fix 1000) a0 a1 a2
theorem swagelaw10_count.calls {G : Gd} {r : Int} {a0 : S36} {a1 : Int} {a2 : Int} {A1 : Option Addr} {c2 : Nat} (hr3 : Rd G k36 A1 a0.f3) (hl4 : a0.f3.length ≤ c2) (h : swagelaw10_count.f a0 a1 a2 = some r) : Fn Tryd.prog 38 G [] [.agg #[.int .i64 a0.f0, .string a0.f1, .int .i64 a0.f2, .slice A1 a0.f3.length c2], .int .i64 a1, .int .i64 a2] (swagelaw10_count.post G r) := (swagelaw10_count.fixc 1000).1 hr3 hl4 h
end Go.Proofs.YtdklnjmdaecboaaDoor.Sy
set_option linter.unusedVariables false
set_option linter.unusedSimpArgs false
set_option maxRecDepth 100000
set_option maxHeartbeats 4000000
namespace Go.Proofs.YtdklnjmdaecboaaDoor.Sy
open Go Go.RowKit Go.Proofs.YtdklnjmdaecboaaDoorW.PrintWords 
def swagelaw10_Few.f (a0 : S36) : Option Bool := (swagelaw10_count.f a0 400 60).bind fun (y6 : Int) => some (decide (y6 ≤ 400))
def swagelaw10_Few.post (G : Gd) (r : Bool) (v : Value) (G' : Gd) (Lr : List Ch) : Prop := G = G' ∧ v = .bool r ∧ Lr = []
theorem swagelaw10_Few.calls {G : Gd} {r : Bool} {a0 : S36} {A1 : Option Addr} {c2 : Nat} (hr3 : Rd G k36 A1 a0.f3) (hl4 : a0.f3.length ≤ c2) (h : swagelaw10_Few.f a0 = some r) : Fn Tryd.prog 24 G [] [.agg #[.int .i64 a0.f0, .string a0.f1, .int .i64 a0.f2, .slice A1 a0.f3.length c2]] (swagelaw10_Few.post G r) := by
  refine Fn.intro (e := [(0, .agg #[.int .i64 a0.f0, .string a0.f1, .int .i64 a0.f2, .slice A1 a0.f3.length c2])]) 8 Tryd.func24 rfl Tryd.ntmps24 rfl rfl (Nat.le_of_ble_eq_true rfl) (fun L => ?_)
  unfold swagelaw10_Few.f at h
  refine TC.seq ?_
  refine TC.region ?_
  refine TL.cons (TL.box (cs := [.int .i64 a0.f0, .string a0.f1, .int .i64 a0.f2, .slice A1 a0.f3.length c2]) rfl rfl rfl rfl (fun b5 => ?_))
  refine TL.cons (TO.val rfl rfl rfl (Val.assign rfl) ?_)
  refine TL.nil ?_
  refine TQ.then_ ?_
  refine TC.seq ?_
  refine TC.region ?_
  refine TL.cons (TO.val rfl rfl rfl (Val.loadsB 0 (cs := [.int .i64 a0.f0, .string a0.f1, .int .i64 a0.f2, .slice A1 a0.f3.length c2]) agg36 fsz36 rfl rfl rfl rfl) ?_)
  obtain ⟨y6, hy7, h⟩ := bind_no h
  refine TL.cons (TL.callV (Lin := []) (args := [.agg #[.int .i64 a0.f0, .string a0.f1, .int .i64 a0.f2, .slice A1 a0.f3.length c2], .int .i64 400, .int .i64 60]) rfl rfl rfl hbd38 rfl rfl (swagelaw10_count.calls (a0 := a0) (a1 := 400) (a2 := 60) hr3 hl4 hy7) rfl ?_)
  rintro _ _ _ _ ⟨rfl, rfl, rfl⟩
  refine TL.cons (TO.val rfl rfl rfl (Val.assign rfl) ?_)
  refine TL.nil ?_
  refine TQ.then_ ?_
  refine TC.seq ?_
  refine TC.region ?_
  refine TL.cons (TO.val rfl rfl rfl (Val.move rfl) ?_)
  refine TL.cons (TO.val rfl rfl rfl (Val.cmp rfl rfl run_leq) ?_)
  refine TL.cons (TO.val rfl rfl rfl (Val.assign rfl) ?_)
  refine TL.nil ?_
  refine TQ.then_ ?_
  refine TC.ret ?_
  obtain rfl := Option.some.inj h
  exact TQ.fin (.inl rfl) rfl Tryd.results24 (.tmp rfl .nil) rfl (FRel.mk (Ls := []) [] 1 (Gd.le.refl _) rfl rfl rfl ⟨rfl, rfl, rfl⟩)
end Go.Proofs.YtdklnjmdaecboaaDoor.Sy
set_option linter.unusedVariables false
set_option linter.unusedSimpArgs false
set_option maxRecDepth 100000
set_option maxHeartbeats 4000000
namespace Go.Proofs.YtdklnjmdaecboaaDoor.Sy
open Go Go.RowKit Go.Proofs.YtdklnjmdaecboaaDoorW.PrintWords 
def swageref09_digit.f (a0 : Int) : Option Bool := (if 48 ≤ a0 then some (decide (a0 ≤ 57)) else some false)
def swageref09_digit.post (G : Gd) (r : Bool) (v : Value) (G' : Gd) (Lr : List Ch) : Prop := G = G' ∧ v = .bool r ∧ Lr = []
theorem swageref09_digit.calls {G : Gd} {r : Bool} {a0 : Int} (h : swageref09_digit.f a0 = some r) : Fn Tryd.prog 56 G [] [.int .u8 a0] (swageref09_digit.post G r) := by
  refine Fn.intro (e := [(0, .int .u8 a0)]) 9 Tryd.func56 rfl Tryd.ntmps56 rfl rfl (Nat.le_of_ble_eq_true rfl) (fun L => ?_)
  unfold swageref09_digit.f at h
  refine TC.seq ?_
  refine TC.region ?_
  refine TL.cons (TO.val rfl rfl rfl (Val.assign rfl) ?_)
  refine TL.nil ?_
  refine TQ.then_ ?_
  refine TC.seq ?_
  refine TC.region ?_
  refine TL.cons (TO.val rfl rfl rfl (Val.move rfl) ?_)
  refine TL.cons (TO.val rfl rfl rfl (Val.cmp rfl rfl run_geq) ?_)
  refine TL.cons (TO.val rfl rfl rfl (Val.move rfl) ?_)
  refine TK.split (p := 48 ≤ a0) h (fun hg4 h => ?_) (fun hg4 h => ?_)
  · have hk5 : decide (48 ≤ a0) = true := decide_eq_true hg4
    refine TL.cons (TO.val (Wt.yes rfl rfl rfl hk5) rfl rfl (Val.move rfl) ?_)
    refine TL.cons (TO.val (Wt.yes rfl rfl rfl hk5) rfl rfl (Val.cmp rfl rfl run_leq) ?_)
    refine TL.cons (TO.val rfl rfl rfl (Val.pickY rfl hk5 rfl) ?_)
    refine TL.cons (TO.val rfl rfl rfl (Val.assign rfl) ?_)
    refine TL.nil ?_
    refine TQ.then_ ?_
    refine TC.ret ?_
    obtain rfl := Option.some.inj h
    exact TQ.fin (.inl rfl) rfl Tryd.results56 (.tmp rfl .nil) rfl (FRel.mk (Ls := []) [] 0 (Gd.le.refl _) rfl rfl rfl ⟨rfl, rfl, rfl⟩)
  · have hk6 : decide (48 ≤ a0) = false := decide_eq_false hg4
    refine TL.cons (TL.not (Wt.no rfl rfl rfl hk6) rfl ?_)
    refine TL.cons (TL.not (Wt.no rfl rfl rfl hk6) rfl ?_)
    refine TL.cons (TO.val rfl rfl rfl (Val.pickN rfl hk6 rfl) ?_)
    refine TL.cons (TO.val rfl rfl rfl (Val.assign rfl) ?_)
    refine TL.nil ?_
    refine TQ.then_ ?_
    refine TC.ret ?_
    obtain rfl := Option.some.inj h
    exact TQ.fin (.inl rfl) rfl Tryd.results56 (.tmp rfl .nil) rfl (FRel.mk (Ls := []) [] 0 (Gd.le.refl _) rfl rfl rfl ⟨rfl, rfl, rfl⟩)
end Go.Proofs.YtdklnjmdaecboaaDoor.Sy
set_option linter.unusedVariables false
set_option linter.unusedSimpArgs false
set_option maxRecDepth 100000
set_option maxHeartbeats 4000000
namespace Go.Proofs.YtdklnjmdaecboaaDoor.Sy
open Go Go.RowKit Go.Proofs.YtdklnjmdaecboaaDoorW.PrintWords 
def swageref09_Number.l0 (a0 : ByteArray) : Nat → Int → Int → Option (Sum (Int × Bool) (Int))
  | 0, _, _ => none
  | n193 + 1, x127, x128 => (if x128 < (a0.size : Int) then jn (γ := (Sum (Int × Bool) (Int))) (fun (x315 : Bool) => (if x315 = true then some (.inl (0, false)) else (byte? a0 x128).bind fun (y319 : Int) => jn (γ := (Sum (Int × Bool) (Int))) (fun (x324 : Bool) => (if x324 = true then some (.inl (0, false)) else swageref09_Number.l0 a0 n193 (IntKind.i64.wrap ((IntKind.i64.wrap (10 * x127)) + (IntKind.i64.wrap ((IntKind.i64.wrap y319) - 48)))) (IntKind.i64.wrap (x128 + 1)))) (fun (j325 : (Bool → Option (Sum (Int × Bool) (Int)))) => (if x127 = 922337203685477580 then j325 (decide (7 < (IntKind.i64.wrap ((IntKind.i64.wrap y319) - 48)))) else j325 false)))) (fun (j316 : (Bool → Option (Sum (Int × Bool) (Int)))) => (byte? a0 x128).bind fun (y331 : Int) => (swageref09_digit.f y331).bind fun (y333 : Bool) => (if (!y333) = true then j316 true else j316 (decide (922337203685477580 < x127)))) else some (.inr x127))
def swageref09_Number.f (a0 : ByteArray) : Option (Int × Bool) := (swageref09_Number.l0 a0 (a0.size + 1) 0 0).bind fun | .inl q_ => some q_ | .inr x191 => (jn (γ := (Int × Bool)) (fun (x264 : Bool) => (if x264 = true then some (0, false) else some (x191, true))) (fun (j265 : (Bool → Option (Int × Bool))) => (if (a0.size : Int) = 0 then j265 true else (if 1 < (a0.size : Int) then (byte? a0 0).bind fun (y273 : Int) => j265 (decide (y273 = 48)) else j265 false))))
def swageref09_Number.post (G : Gd) (r : (Int × Bool)) (v : Value) (G' : Gd) (Lr : List Ch) : Prop := G = G' ∧ v = .tuple #[.int .i64 r.1, .bool r.2] ∧ Lr = []
theorem swageref09_Number.calls {G : Gd} {r : (Int × Bool)} {a0 : ByteArray} (h : swageref09_Number.f a0 = some r) : Fn Tryd.prog 49 G [] [.string a0] (swageref09_Number.post G r) := by
  refine Fn.intro (e := [(0, .string a0)]) 51 Tryd.func49 rfl Tryd.ntmps49 rfl rfl (Nat.le_of_ble_eq_true rfl) (fun L => ?_)
  unfold swageref09_Number.f at h
  refine TC.seq ?_
  refine TC.region ?_
  refine TL.cons (TO.val rfl rfl rfl (Val.assign rfl) ?_)
  refine TL.cons (TO.val rfl rfl rfl (Val.assign rfl) ?_)
  refine TL.nil ?_
  refine TQ.then_ ?_
  refine TC.seq ?_
  refine TC.region ?_
  refine TL.cons (TO.val rfl rfl rfl (Val.assign rfl) ?_)
  refine TL.nil ?_
  refine TQ.then_ ?_
  refine TC.seq ?_
  refine TC.seq ?_
  refine TC.region ?_
  refine TL.cons (TO.val rfl rfl rfl (Val.assign rfl) ?_)
  refine TL.nil ?_
  refine TQ.then_ ?_
  obtain ⟨o192, ho192, ko192⟩ := bind_no h
  clear h
  refine TC.tail (fun a W => ∃ (x191 : Int), (.inr x191) = o192 ∧ Fr 51 a [(0, .string a0), (4, .int .i64 x191)] ∧ Own G (L) W) ?_ ?_
  · rintro a W ⟨x191, rfl, hF, hO⟩
    have h := ko192
    clear ko192 ho192
    refine TQ.use ?_ hF hO
    clear hF hO
    refine TQ.then_ ?_
    refine TC.seq ?_
    refine TC.seq ?_
    obtain ⟨j265, hj265, h⟩ := jn_no h
    refine TC.tail (fun a W => ∃ (x264 : Bool), j265 x264 = some r ∧ Fr 51 a [(4, .int .i64 x191), (49, .bool x264)] ∧ Own G (L) W) ?_ ?_
    · rintro a W ⟨x264, h, hF, hO⟩
      rw [hj265] at h
      refine TQ.use ?_ hF hO
      clear hF hO
      refine TQ.then_ ?_
      refine TC.cond_b rfl h (fun hc267 h => ?_) (fun hc267 h => ?_)
      · refine TC.seq ?_
        refine TC.region ?_
        refine TL.cons (TO.val rfl rfl rfl (Val.assign rfl) ?_)
        refine TL.cons (TO.val rfl rfl rfl (Val.assign rfl) ?_)
        refine TL.nil ?_
        refine TQ.then_ ?_
        refine TC.ret ?_
        refine TQ.thenR ?_
        obtain rfl := Option.some.inj h
        exact TQ.fin (.inl rfl) rfl Tryd.results49 (.tmp rfl (.tmp rfl .nil)) rfl (FRel.mk (Ls := []) [] 0 (Gd.le.refl _) rfl rfl rfl ⟨rfl, rfl, rfl⟩)
      · refine TC.skip ?_
        refine TQ.then_ ?_
        refine TC.seq ?_
        refine TC.region ?_
        refine TL.cons (TO.val rfl rfl rfl (Val.move rfl) ?_)
        refine TL.cons (TO.val rfl rfl rfl (Val.assign rfl) ?_)
        refine TL.cons (TO.val rfl rfl rfl (Val.assign rfl) ?_)
        refine TL.nil ?_
        refine TQ.then_ ?_
        refine TC.ret ?_
        obtain rfl := Option.some.inj h
        exact TQ.fin (.inl rfl) rfl Tryd.results49 (.tmp rfl (.tmp rfl .nil)) rfl (FRel.mk (Ls := []) [] 0 (Gd.le.refl _) rfl rfl rfl ⟨rfl, rfl, rfl⟩)
    · refine TC.region ?_
      refine TL.cons (TO.val rfl rfl rfl (Val.move rfl) ?_)
      refine TL.cons (TO.val rfl rfl rfl (Val.lenS Tryd.underlying9 rfl) ?_)
      refine TL.cons (TO.val rfl rfl rfl (Val.cmp rfl rfl run_eql) ?_)
      refine TL.cons (TO.val rfl rfl rfl (Val.move rfl) ?_)
      refine TK.split (p := (a0.size : Int) = 0) h (fun hg268 h => ?_) (fun hg268 h => ?_)
      · have hk269 : decide ((a0.size : Int) = 0) = true := decide_eq_true hg268
        refine TL.cons (TL.not (Wt.no rfl rfl rfl hk269) rfl ?_)
        refine TL.cons (TL.not (Wt.no rfl rfl rfl hk269) rfl ?_)
        refine TL.cons (TL.not (Wt.no rfl rfl rfl hk269) rfl ?_)
        refine TL.cons (TL.not (Wt.no rfl rfl rfl hk269) rfl ?_)
        refine TL.cons (TL.not rfl rfl ?_)
        refine TL.cons (TL.not rfl rfl ?_)
        refine TL.cons (TL.not rfl rfl ?_)
        refine TL.cons (TL.not (Wt.no rfl rfl rfl hk269) rfl ?_)
        refine TL.cons (TO.val rfl rfl rfl (Val.pickY rfl hk269 rfl) ?_)
        refine TL.nil ?_
        exact fun a W hF hO => ⟨true, h, hF.sub ⟨rfl, rfl, trivial⟩, hO.selT (Ls := []) [] 0 rfl rfl rfl⟩
      · have hk270 : decide ((a0.size : Int) = 0) = false := decide_eq_false hg268
        refine TL.cons (TO.val (Wt.yes rfl rfl rfl hk270) rfl rfl (Val.move rfl) ?_)
        refine TL.cons (TO.val (Wt.yes rfl rfl rfl hk270) rfl rfl (Val.lenS Tryd.underlying9 rfl) ?_)
        refine TL.cons (TO.val (Wt.yes rfl rfl rfl hk270) rfl rfl (Val.cmp rfl rfl run_gtr) ?_)
        refine TL.cons (TO.val (Wt.yes rfl rfl rfl hk270) rfl rfl (Val.move rfl) ?_)
        refine TK.split (p := 1 < (a0.size : Int)) h (fun hg271 h => ?_) (fun hg271 h => ?_)
        · have hk272 : decide (1 < (a0.size : Int)) = true := decide_eq_true hg271
          refine TL.cons (TO.val (Wt.yes rfl rfl rfl hk272) rfl rfl (Val.move rfl) ?_)
          obtain ⟨y273, hy274, h⟩ := bind_no h
          refine TL.cons (TO.val (Wt.yes rfl rfl rfl hk272) rfl rfl (Val.indexS Tryd.underlying9 rfl rfl hy274) ?_)
          refine TL.cons (TO.val (Wt.yes rfl rfl rfl hk272) rfl rfl (Val.cmp rfl rfl run_eql) ?_)
          refine TL.cons (TO.val (Wt.yes rfl rfl rfl hk270) rfl rfl (Val.pickY rfl hk272 rfl) ?_)
          refine TL.cons (TO.val rfl rfl rfl (Val.pickN rfl hk270 rfl) ?_)
          refine TL.nil ?_
          exact fun a W hF hO => ⟨decide (y273 = 48), h, hF.sub ⟨rfl, rfl, trivial⟩, hO.selT (Ls := []) [] 0 rfl rfl rfl⟩
        · have hk275 : decide (1 < (a0.size : Int)) = false := decide_eq_false hg271
          refine TL.cons (TL.not (Wt.no rfl rfl rfl hk275) rfl ?_)
          refine TL.cons (TL.not (Wt.no rfl rfl rfl hk275) rfl ?_)
          refine TL.cons (TL.not (Wt.no rfl rfl rfl hk275) rfl ?_)
          refine TL.cons (TO.val (Wt.yes rfl rfl rfl hk270) rfl rfl (Val.pickN rfl hk275 rfl) ?_)
          refine TL.cons (TO.val rfl rfl rfl (Val.pickN rfl hk270 rfl) ?_)
          refine TL.nil ?_
          exact fun a W hF hO => ⟨false, h, hF.sub ⟨rfl, rfl, trivial⟩, hO.selT (Ls := []) [] 0 rfl rfl rfl⟩
  · refine TC.block ?_
    intro a W hF hO
    have hS : ∃ (x127 : Int) (x128 : Int), swageref09_Number.l0 a0 (a0.size + 1) x127 x128 = some o192 ∧ Fr 51 a [(0, .string a0), (4, .int .i64 x127), (5, .int .i64 x128)] ∧ Own G (L) W := by
      exact ⟨0, 0, ho192, hF.sub ⟨rfl, rfl, rfl, trivial⟩, hO.selT (Ls := []) [] 0 rfl rfl rfl⟩
    clear hF hO ho192
    refine TC.loop (fun n193 a W => ∃ (x127 : Int) (x128 : Int), swageref09_Number.l0 a0 n193 x127 x128 = some o192 ∧ Fr 51 a [(0, .string a0), (4, .int .i64 x127), (5, .int .i64 x128)] ∧ Own G (L) W) ?_ ?_ hS
    · rintro a W ⟨x127, x128, h, hF, hO⟩
      exact none_no h
    · clear hS
      rintro n193 a W ⟨x127, x128, h, hF, hO⟩
      rw [swageref09_Number.l0] at h
      refine TC.use ?_ hF hO
      clear hF hO
      refine TC.seq ?_
      refine TC.seq ?_
      refine TC.region ?_
      refine TL.cons (TO.val rfl rfl rfl (Val.move rfl) ?_)
      refine TL.cons (TO.val rfl rfl rfl (Val.move rfl) ?_)
      refine TL.cons (TO.val rfl rfl rfl (Val.lenS Tryd.underlying9 rfl) ?_)
      refine TL.cons (TO.val rfl rfl rfl (Val.cmp rfl rfl run_lss) ?_)
      refine TL.nil ?_
      refine TQ.then_ ?_
      refine TC.cond_p rfl h (fun hc277 h => ?_) (fun hc277 h => ?_)
      · refine TC.skip ?_
        refine TQ.then_ ?_
        refine TC.seq ?_
        refine TC.block ?_
        refine TC.seq ?_
        refine TC.seq ?_
        obtain ⟨j316, hj316, h⟩ := jn_no h
        refine TC.tail (fun a W => ∃ (x315 : Bool), j316 x315 = some o192 ∧ Fr 51 a [(0, .string a0), (4, .int .i64 x127), (5, .int .i64 x128), (21, .bool x315)] ∧ Own G (L) W) ?_ ?_
        · rintro a W ⟨x315, h, hF, hO⟩
          rw [hj316] at h
          refine TQ.use ?_ hF hO
          clear hF hO
          refine TQ.then_ ?_
          refine TC.cond_b rfl h (fun hc318 h => ?_) (fun hc318 h => ?_)
          · refine TC.seq ?_
            refine TC.region ?_
            refine TL.cons (TO.val rfl rfl rfl (Val.assign rfl) ?_)
            refine TL.cons (TO.val rfl rfl rfl (Val.assign rfl) ?_)
            refine TL.nil ?_
            refine TQ.then_ ?_
            refine TC.ret ?_
            refine TQ.thenR ?_
            refine TQ.inBR ?_
            refine TQ.thenR ?_
            refine TQ.thenR ?_
            refine TQ.inBR ?_
            refine TQ.thenR ?_
            refine TQ.thenR ?_
            obtain rfl := Option.some.inj h
            have h := ko192
            obtain rfl := Option.some.inj h
            exact TQ.fin (.inl rfl) rfl Tryd.results49 (.tmp rfl (.tmp rfl .nil)) rfl (FRel.mk (Ls := []) [] 0 (Gd.le.refl _) rfl rfl rfl ⟨rfl, rfl, rfl⟩)
          · refine TC.skip ?_
            refine TQ.then_ ?_
            refine TC.seq ?_
            refine TC.region ?_
            refine TL.cons (TO.val rfl rfl rfl (Val.move rfl) ?_)
            refine TL.cons (TO.val rfl rfl rfl (Val.move rfl) ?_)
            obtain ⟨y319, hy320, h⟩ := bind_no h
            refine TL.cons (TO.val rfl rfl rfl (Val.indexS Tryd.underlying9 rfl rfl hy320) ?_)
            refine TL.cons (TO.val rfl rfl rfl (Val.convI Tryd.underlying5 Tryd.underlying3 rfl) ?_)
            refine TL.cons (TO.val rfl rfl rfl (Val.cmp rfl rfl run_sub) ?_)
            refine TL.cons (TO.val rfl rfl rfl (Val.assign rfl) ?_)
            refine TL.nil ?_
            refine TQ.then_ ?_
            refine TC.seq ?_
            refine TC.seq ?_
            obtain ⟨j325, hj325, h⟩ := jn_no h
            refine TC.tail (fun a W => ∃ (x324 : Bool), j325 x324 = some o192 ∧ Fr 51 a [(0, .string a0), (4, .int .i64 x127), (5, .int .i64 x128), (6, .int .i64 (IntKind.i64.wrap ((IntKind.i64.wrap y319) - 48))), (32, .bool x324)] ∧ Own G (L) W) ?_ ?_
            · rintro a W ⟨x324, h, hF, hO⟩
              rw [hj325] at h
              refine TQ.use ?_ hF hO
              clear hF hO
              refine TQ.then_ ?_
              refine TC.cond_b rfl h (fun hc327 h => ?_) (fun hc327 h => ?_)
              · refine TC.seq ?_
                refine TC.region ?_
                refine TL.cons (TO.val rfl rfl rfl (Val.assign rfl) ?_)
                refine TL.cons (TO.val rfl rfl rfl (Val.assign rfl) ?_)
                refine TL.nil ?_
                refine TQ.then_ ?_
                refine TC.ret ?_
                refine TQ.thenR ?_
                refine TQ.inBR ?_
                refine TQ.thenR ?_
                refine TQ.thenR ?_
                refine TQ.inBR ?_
                refine TQ.thenR ?_
                refine TQ.thenR ?_
                obtain rfl := Option.some.inj h
                have h := ko192
                obtain rfl := Option.some.inj h
                exact TQ.fin (.inl rfl) rfl Tryd.results49 (.tmp rfl (.tmp rfl .nil)) rfl (FRel.mk (Ls := []) [] 0 (Gd.le.refl _) rfl rfl rfl ⟨rfl, rfl, rfl⟩)
              · refine TC.skip ?_
                refine TQ.then_ ?_
                refine TC.region ?_
                refine TL.cons (TO.val rfl rfl rfl (Val.move rfl) ?_)
                refine TL.cons (TO.val rfl rfl rfl (Val.cmp rfl rfl run_mul) ?_)
                refine TL.cons (TO.val rfl rfl rfl (Val.move rfl) ?_)
                refine TL.cons (TO.val rfl rfl rfl (Val.cmp rfl rfl run_add) ?_)
                refine TL.cons (TO.val rfl rfl rfl (Val.assign rfl) ?_)
                refine TL.nil ?_
                refine TQ.inB ?_
                refine TQ.then_ ?_
                refine TC.region ?_
                refine TL.cons (TO.val rfl rfl rfl (Val.move rfl) ?_)
                refine TL.cons (TO.val rfl rfl rfl (Val.cmp rfl rfl run_add) ?_)
                refine TL.cons (TO.val rfl rfl rfl (Val.assign rfl) ?_)
                refine TL.nil ?_
                exact fun a W hF hO => ⟨IntKind.i64.wrap ((IntKind.i64.wrap (10 * x127)) + (IntKind.i64.wrap ((IntKind.i64.wrap y319) - 48))), IntKind.i64.wrap (x128 + 1), h, hF.sub ⟨rfl, rfl, rfl, trivial⟩, hO.selT (Ls := []) [] 0 rfl rfl rfl⟩
            · refine TC.region ?_
              refine TL.cons (TO.val rfl rfl rfl (Val.move rfl) ?_)
              refine TL.cons (TO.val rfl rfl rfl (Val.cmp rfl rfl run_eql) ?_)
              refine TL.cons (TO.val rfl rfl rfl (Val.move rfl) ?_)
              refine TK.split (p := x127 = 922337203685477580) h (fun hg328 h => ?_) (fun hg328 h => ?_)
              · have hk329 : decide (x127 = 922337203685477580) = true := decide_eq_true hg328
                refine TL.cons (TO.val (Wt.yes rfl rfl rfl hk329) rfl rfl (Val.move rfl) ?_)
                refine TL.cons (TO.val (Wt.yes rfl rfl rfl hk329) rfl rfl (Val.cmp rfl rfl run_gtr) ?_)
                refine TL.cons (TO.val rfl rfl rfl (Val.pickY rfl hk329 rfl) ?_)
                refine TL.nil ?_
                exact fun a W hF hO => ⟨decide (7 < (IntKind.i64.wrap ((IntKind.i64.wrap y319) - 48))), h, hF.sub ⟨rfl, rfl, rfl, rfl, rfl, trivial⟩, hO.selT (Ls := []) [] 0 rfl rfl rfl⟩
              · have hk330 : decide (x127 = 922337203685477580) = false := decide_eq_false hg328
                refine TL.cons (TL.not (Wt.no rfl rfl rfl hk330) rfl ?_)
                refine TL.cons (TL.not (Wt.no rfl rfl rfl hk330) rfl ?_)
                refine TL.cons (TO.val rfl rfl rfl (Val.pickN rfl hk330 rfl) ?_)
                refine TL.nil ?_
                exact fun a W hF hO => ⟨false, h, hF.sub ⟨rfl, rfl, rfl, rfl, rfl, trivial⟩, hO.selT (Ls := []) [] 0 rfl rfl rfl⟩
        · refine TC.region ?_
          refine TL.cons (TO.val rfl rfl rfl (Val.move rfl) ?_)
          refine TL.cons (TO.val rfl rfl rfl (Val.move rfl) ?_)
          obtain ⟨y331, hy332, h⟩ := bind_no h
          refine TL.cons (TO.val rfl rfl rfl (Val.indexS Tryd.underlying9 rfl rfl hy332) ?_)
          obtain ⟨y333, hy334, h⟩ := bind_no h
          refine TL.cons (TL.callV (Lin := []) (args := [.int .u8 y331]) rfl rfl rfl hbd56 rfl rfl (swageref09_digit.calls (a0 := y331) hy334) rfl ?_)
          rintro _ _ _ _ ⟨rfl, rfl, rfl⟩
          refine TL.cons (TO.val rfl rfl rfl (Val.not_ rfl) ?_)
          refine TL.cons (TO.val rfl rfl rfl (Val.move rfl) ?_)
          refine TK.split (p := (!y333) = true) h (fun hg335 h => ?_) (fun hg335 h => ?_)
          · have hk336 : (!y333) = true := hg335
            refine TL.cons (TL.not (Wt.no rfl rfl rfl hk336) rfl ?_)
            refine TL.cons (TL.not (Wt.no rfl rfl rfl hk336) rfl ?_)
            refine TL.cons (TO.val rfl rfl rfl (Val.pickY rfl hk336 rfl) ?_)
            refine TL.nil ?_
            exact fun a W hF hO => ⟨true, h, hF.sub ⟨rfl, rfl, rfl, rfl, trivial⟩, hO.selT (Ls := []) [] 0 rfl rfl rfl⟩
          · have hk337 : (!y333) = false := (by simpa using hg335)
            refine TL.cons (TO.val (Wt.yes rfl rfl rfl hk337) rfl rfl (Val.move rfl) ?_)
            refine TL.cons (TO.val (Wt.yes rfl rfl rfl hk337) rfl rfl (Val.cmp rfl rfl run_gtr) ?_)
            refine TL.cons (TO.val rfl rfl rfl (Val.pickN rfl hk337 rfl) ?_)
            refine TL.nil ?_
            exact fun a W hF hO => ⟨decide (922337203685477580 < x127), h, hF.sub ⟨rfl, rfl, rfl, rfl, trivial⟩, hO.selT (Ls := []) [] 0 rfl rfl rfl⟩
      · refine TC.exit ?_
        refine TQ.thenX ?_
        refine TQ.thenX ?_
        refine TQ.inBX ?_
        exact fun a W hF hO => ⟨x127, Option.some.inj h, hF.sub ⟨rfl, rfl, trivial⟩, hO.selT (Ls := []) [] 0 rfl rfl rfl⟩
end Go.Proofs.YtdklnjmdaecboaaDoor.Sy
set_option linter.unusedVariables false
set_option linter.unusedSimpArgs false
set_option maxRecDepth 100000
set_option maxHeartbeats 4000000
namespace Go.Proofs.YtdklnjmdaecboaaDoor.Sy
open Go Go.RowKit Go.Proofs.YtdklnjmdaecboaaDoorW.PrintWords 
def swageref11_of.post (G : Gd) (r : (S24 × Bool)) (v : Value) (G' : Gd) (Lr : List Ch) : Prop := G = G' ∧ ∃ (A_1 : Option Addr) (c_1 : Nat), v = .tuple #[.agg #[.int .i64 r.1.f0, .int .i64 r.1.f1, .slice A_1 r.1.f2.length c_1], .bool r.2] ∧ Lr = [Row k24 24 (.slice A_1 r.1.f2.length c_1) r.1.f2]
def swageref11_of.l0 (rec40 : (S36 → Option (S24 × Bool))) (a0 : S36) (x49 : Int) (x50 : Int) : Nat → Int → (List S24) → Option (Sum (S24 × Bool) ((List S24)))
  | 0, _, _ => none
  | n237 + 1, x175, l176 => (if x175 < (a0.f3.length : Int) then (at? a0.f3 x175).bind fun y317 => (rec40 y317).bind fun (y330 : (S24 × Bool)) => (if (!y330.2) = true then some (.inl ((⟨x49, x50, l176⟩ : S24), false)) else (if l176.length < 3518437208883 then swageref11_of.l0 rec40 a0 x49 x50 n237 (IntKind.i64.wrap (x175 + 1)) (l176 ++ [y330.1]) else none)) else some (.inr l176))
def swageref11_of.g (rec40 : (S36 → Option (S24 × Bool))) (a0 : S36) : Option (S24 × Bool) := jn (γ := (S24 × Bool)) (fun (x49 : Int) (x50 : Int) => jn (γ := (S24 × Bool)) (fun (x58 : Bool) => (if x58 = true then some ((⟨x49, x50, ([] : List S24)⟩ : S24), false) else (swageref11_of.l0 rec40 a0 x49 x50 (a0.f3.length + 1) 0 []).bind fun | .inl q_ => some q_ | .inr l232 => (some ((⟨x49, x50, l232⟩ : S24), true)))) (fun (j59 : (Bool → Option (S24 × Bool))) => (if (a0.f3.length : Int) < 1 then j59 true else (if 1 < (a0.f3.length : Int) then j59 (!decide (a0.f0 = 8)) else j59 false)))) (fun (j51 : (Int → Int → Option (S24 × Bool))) => (if a0.f0 = 5 then some ((⟨1, 0, ([] : List S24)⟩ : S24), decide ((a0.f3.length : Int) = 0)) else (if a0.f0 = 6 then j51 2 0 else (if a0.f0 = 7 then (swageref09_Number.f a0.f1).bind fun (y365 : (Int × Bool)) => (if (!y365.2) = true then some ((⟨3, 0, ([] : List S24)⟩ : S24), false) else j51 3 y365.1) else (if a0.f0 = 8 then j51 4 0 else some ((⟨0, 0, ([] : List S24)⟩ : S24), false))))))
theorem swageref11_of.step (rec40 : (S36 → Option (S24 × Bool))) (ih40 : ∀ {G : Gd} {r : (S24 × Bool)} {a0 : S36} {A1 : Option Addr} {c2 : Nat} (hr3 : Rd G k36 A1 a0.f3) (hl4 : a0.f3.length ≤ c2), rec40 a0 = some r → Fn Tryd.prog 40 G [] [.agg #[.int .i64 a0.f0, .string a0.f1, .int .i64 a0.f2, .slice A1 a0.f3.length c2]] (swageref11_of.post G r)) {G : Gd} {r : (S24 × Bool)} {a0 : S36} {A1 : Option Addr} {c2 : Nat} (hr3 : Rd G k36 A1 a0.f3) (hl4 : a0.f3.length ≤ c2) (h : swageref11_of.g rec40 a0 = some r) : Fn Tryd.prog 40 G [] [.agg #[.int .i64 a0.f0, .string a0.f1, .int .i64 a0.f2, .slice A1 a0.f3.length c2]] (swageref11_of.post G r) := by
  refine Fn.intro (e := [(0, .agg #[.int .i64 a0.f0, .string a0.f1, .int .i64 a0.f2, .slice A1 a0.f3.length c2])]) 80 Tryd.func40 rfl Tryd.ntmps40 rfl rfl (Nat.le_of_ble_eq_true rfl) (fun L => ?_)
  unfold swageref11_of.g at h
  refine TC.seq ?_
  refine TC.region ?_
  refine TL.cons (TL.box (cs := [.int .i64 a0.f0, .string a0.f1, .int .i64 a0.f2, .slice A1 a0.f3.length c2]) rfl rfl rfl rfl (fun b5 => ?_))
  refine TL.cons (TL.alloc (cs := [.int .i64 0, .int .i64 0, .slice none 0 0]) rfl rfl zr24 rfl (fun b6 => ?_))
  refine TL.cons (TO.val rfl rfl rfl (Val.assign rfl) ?_)
  refine TL.nil ?_
  refine TQ.then_ ?_
  refine TC.seq ?_
  refine TC.region ?_
  refine TL.cons (TO.val rfl rfl rfl (Val.build (cs := [.int .i64 0, .int .i64 0, .slice none 0 0]) (is := []) (xs := []) Tryd.underlying24 zr24 bld24 rfl rfl rfl rfl) ?_)
  refine TL.cons (TL.alloc (cs := [.int .i64 0, .int .i64 0, .slice none 0 0]) rfl rfl zr24 rfl (fun b7 => ?_))
  refine TL.cons (TL.store 0 (ds := [.int .i64 0, .int .i64 0, .slice none 0 0]) (cs' := [.int .i64 0, .int .i64 0, .slice none 0 0]) (L' := (Blk b7 [.int .i64 0, .int .i64 0, .slice none 0 0] 24 :: Blk b6 [.int .i64 0, .int .i64 0, .slice none 0 0] 24 :: Blk b5 [.int .i64 a0.f0, .string a0.f1, .int .i64 a0.f2, .slice A1 a0.f3.length c2] 36 :: L)) rfl fsz24 rfl rfl rfl rfl rfl (Nat.le_of_ble_eq_true rfl) rfl rfl ?_)
  refine TL.nil ?_
  refine TQ.then_ ?_
  refine TC.seq ?_
  refine TC.region ?_
  refine TL.cons (TO.val rfl rfl rfl (Val.fieldAddrB Tryd.underlying36 rfl fsz34 rfl rfl rfl) ?_)
  refine TL.cons (TO.val rfl rfl rfl (Val.loadB 2 agg34 rfl rfl rfl) ?_)
  refine TL.cons (TO.val rfl rfl rfl (Val.len Tryd.underlying34 rfl) ?_)
  refine TL.cons (TO.val rfl rfl rfl (Val.assign rfl) ?_)
  refine TL.nil ?_
  refine TQ.then_ ?_
  refine TC.seq ?_
  refine TC.seq ?_
  refine TC.region ?_
  refine TL.cons (TO.val rfl rfl rfl (Val.fieldAddrB Tryd.underlying36 rfl fsz3 rfl rfl rfl) ?_)
  refine TL.cons (TO.val rfl rfl rfl (Val.loadB 2 agg3 rfl rfl rfl) ?_)
  refine TL.nil ?_
  refine TQ.then_ ?_
  refine TC.block ?_
  refine TC.seq ?_
  refine TC.region ?_
  refine TL.cons (TO.val rfl rfl rfl (Val.cmp rfl rfl run_eql) ?_)
  refine TL.cons (TO.val rfl rfl rfl (Val.assign rfl) ?_)
  refine TL.nil ?_
  refine TQ.then_ ?_
  obtain ⟨j51, hj51, h⟩ := jn_no h
  refine TC.tail (fun a W => ∃ (x49 : Int) (x50 : Int), j51 x49 x50 = some r ∧ Fr 80 a [(1, .pointer (some ⟨b5, 0, none⟩)), (2, .pointer (some ⟨b6, 0, none⟩)), (4, .pointer (some ⟨b7, 0, none⟩)), (5, .int .i64 (a0.f3.length : Int))] ∧ Own G (Blk b5 [.int .i64 a0.f0, .string a0.f1, .int .i64 a0.f2, .slice A1 a0.f3.length c2] 36 :: Blk b6 [.int .i64 0, .int .i64 0, .slice none 0 0] 24 :: Blk b7 [.int .i64 x49, .int .i64 x50, .slice none 0 0] 24 :: L) W) ?_ ?_
  · rintro a W ⟨x49, x50, h, hF, hO⟩
    rw [hj51] at h
    refine TQ.use ?_ hF hO
    clear hF hO
    refine TQ.inB ?_
    refine TQ.then_ ?_
    refine TC.seq ?_
    refine TC.seq ?_
    obtain ⟨j59, hj59, h⟩ := jn_no h
    refine TC.tail (fun a W => ∃ (x58 : Bool), j59 x58 = some r ∧ Fr 80 a [(1, .pointer (some ⟨b5, 0, none⟩)), (2, .pointer (some ⟨b6, 0, none⟩)), (4, .pointer (some ⟨b7, 0, none⟩)), (5, .int .i64 (a0.f3.length : Int)), (54, .bool x58)] ∧ Own G (Blk b5 [.int .i64 a0.f0, .string a0.f1, .int .i64 a0.f2, .slice A1 a0.f3.length c2] 36 :: Blk b6 [.int .i64 0, .int .i64 0, .slice none 0 0] 24 :: Blk b7 [.int .i64 x49, .int .i64 x50, .slice none 0 0] 24 :: L) W) ?_ ?_
    · rintro a W ⟨x58, h, hF, hO⟩
      rw [hj59] at h
      refine TQ.use ?_ hF hO
      clear hF hO
      refine TQ.then_ ?_
      refine TC.cond_b rfl h (fun hc61 h => ?_) (fun hc61 h => ?_)
      · refine TC.seq ?_
        refine TC.region ?_
        refine TL.cons (TO.val rfl rfl rfl (Val.loadsB 2 (cs := [.int .i64 x49, .int .i64 x50, .slice none 0 0]) agg24 fsz24 rfl rfl rfl rfl) ?_)
        refine TL.cons (TL.store 1 (ds := [.int .i64 x49, .int .i64 x50, .slice none 0 0]) (cs' := [.int .i64 x49, .int .i64 x50, .slice none 0 0]) (L' := (Blk b5 [.int .i64 a0.f0, .string a0.f1, .int .i64 a0.f2, .slice A1 a0.f3.length c2] 36 :: Blk b6 [.int .i64 x49, .int .i64 x50, .slice none 0 0] 24 :: Blk b7 [.int .i64 x49, .int .i64 x50, .slice none 0 0] 24 :: L)) rfl fsz24 rfl rfl rfl rfl rfl (Nat.le_of_ble_eq_true rfl) rfl rfl ?_)
        refine TL.cons (TO.val rfl rfl rfl (Val.assign rfl) ?_)
        refine TL.nil ?_
        refine TQ.then_ ?_
        refine TC.ret ?_
        refine TQ.thenR ?_
        refine TQ.nilRow k24 24 ?_
        obtain rfl := Option.some.inj h
        exact TQ.fin (.inl rfl) rfl Tryd.results40 (.cells 2 rfl rfl agg24 fsz24 (.tmp rfl .nil)) rfl (FRel.mk (Ls := [Row k24 24 (.slice none 0 0) ([] : List S24)]) [0] 4 (Gd.le.refl _) rfl rfl rfl ⟨rfl, none, 0, rfl, rfl⟩)
      · refine TC.skip ?_
        refine TQ.then_ ?_
        refine TC.seq ?_
        refine TC.seq ?_
        refine TC.region ?_
        refine TL.cons (TO.val rfl rfl rfl (Val.assign rfl) ?_)
        refine TL.nil ?_
        refine TQ.then_ ?_
        obtain ⟨o236, ho236, ko236⟩ := bind_no h
        clear h
        refine TC.tail (fun a W => ∃ (l232 : (List S24)) (A233 : Option Addr) (c234 : Nat), (.inr l232) = o236 ∧ Fr 80 a [(2, .pointer (some ⟨b6, 0, none⟩)), (4, .pointer (some ⟨b7, 0, none⟩))] ∧ Own G (Blk b6 [.int .i64 0, .int .i64 0, .slice none 0 0] 24 :: Blk b7 [.int .i64 x49, .int .i64 x50, .slice A233 l232.length c234] 24 :: Row k24 24 (.slice A233 l232.length c234) l232 :: L) W) ?_ ?_
        · rintro a W ⟨l232, A233, c234, rfl, hF, hO⟩
          have h := ko236
          clear ko236 ho236
          refine TQ.use ?_ hF hO
          clear hF hO
          refine TQ.then_ ?_
          refine TC.seq ?_
          refine TC.region ?_
          refine TL.cons (TO.val rfl rfl rfl (Val.loadsB 1 (cs := [.int .i64 x49, .int .i64 x50, .slice A233 l232.length c234]) agg24 fsz24 rfl rfl rfl rfl) ?_)
          refine TL.cons (TL.store 0 (ds := [.int .i64 x49, .int .i64 x50, .slice A233 l232.length c234]) (cs' := [.int .i64 x49, .int .i64 x50, .slice A233 l232.length c234]) (L' := (Blk b6 [.int .i64 x49, .int .i64 x50, .slice A233 l232.length c234] 24 :: Blk b7 [.int .i64 x49, .int .i64 x50, .slice A233 l232.length c234] 24 :: Row k24 24 (.slice A233 l232.length c234) l232 :: L)) rfl fsz24 rfl rfl rfl rfl rfl (Nat.le_of_ble_eq_true rfl) rfl rfl ?_)
          refine TL.cons (TO.val rfl rfl rfl (Val.assign rfl) ?_)
          refine TL.nil ?_
          refine TQ.then_ ?_
          refine TC.ret ?_
          obtain rfl := Option.some.inj h
          exact TQ.fin (.inl rfl) rfl Tryd.results40 (.cells 0 rfl rfl agg24 fsz24 (.tmp rfl .nil)) rfl (FRel.mk (Ls := [Row k24 24 (.slice A233 l232.length c234) l232]) [2] 3 (Gd.le.refl _) rfl rfl rfl ⟨rfl, A233, c234, rfl, rfl⟩)
        · refine TC.block ?_
          intro a W hF hO
          have hS : ∃ (x175 : Int) (l176 : (List S24)) (A177 : Option Addr) (c178 : Nat), swageref11_of.l0 rec40 a0 x49 x50 (a0.f3.length + 1) x175 l176 = some o236 ∧ Fr 80 a [(1, .pointer (some ⟨b5, 0, none⟩)), (2, .pointer (some ⟨b6, 0, none⟩)), (4, .pointer (some ⟨b7, 0, none⟩)), (5, .int .i64 (a0.f3.length : Int)), (8, .int .i64 x175)] ∧ Own G (Blk b5 [.int .i64 a0.f0, .string a0.f1, .int .i64 a0.f2, .slice A1 a0.f3.length c2] 36 :: Blk b6 [.int .i64 0, .int .i64 0, .slice none 0 0] 24 :: Blk b7 [.int .i64 x49, .int .i64 x50, .slice A177 l176.length c178] 24 :: Row k24 24 (.slice A177 l176.length c178) l176 :: L) W := by
            exact ⟨0, [], none, 0, ho236, hF.sub ⟨rfl, rfl, rfl, rfl, rfl, trivial⟩, (Own.nilRow k24 24 hO).selT (Ls := [Blk b5 [.int .i64 a0.f0, .string a0.f1, .int .i64 a0.f2, .slice A1 a0.f3.length c2] 36, Blk b6 [.int .i64 0, .int .i64 0, .slice none 0 0] 24, Blk b7 [.int .i64 x49, .int .i64 x50, .slice none ([] : List S24).length 0] 24, Row k24 24 (.slice none ([] : List S24).length 0) ([] : List S24)]) [1, 2, 3, 0] 4 rfl rfl rfl⟩
          clear hF hO ho236
          refine TC.loop (fun n237 a W => ∃ (x175 : Int) (l176 : (List S24)) (A177 : Option Addr) (c178 : Nat), swageref11_of.l0 rec40 a0 x49 x50 n237 x175 l176 = some o236 ∧ Fr 80 a [(1, .pointer (some ⟨b5, 0, none⟩)), (2, .pointer (some ⟨b6, 0, none⟩)), (4, .pointer (some ⟨b7, 0, none⟩)), (5, .int .i64 (a0.f3.length : Int)), (8, .int .i64 x175)] ∧ Own G (Blk b5 [.int .i64 a0.f0, .string a0.f1, .int .i64 a0.f2, .slice A1 a0.f3.length c2] 36 :: Blk b6 [.int .i64 0, .int .i64 0, .slice none 0 0] 24 :: Blk b7 [.int .i64 x49, .int .i64 x50, .slice A177 l176.length c178] 24 :: Row k24 24 (.slice A177 l176.length c178) l176 :: L) W) ?_ ?_ hS
          · rintro a W ⟨x175, l176, A177, c178, h, hF, hO⟩
            exact none_no h
          · clear hS
            rintro n237 a W ⟨x175, l176, A177, c178, h, hF, hO⟩
            rw [swageref11_of.l0] at h
            refine TC.use ?_ hF hO
            clear hF hO
            refine TC.seq ?_
            refine TC.seq ?_
            refine TC.region ?_
            refine TL.cons (TO.val rfl rfl rfl (Val.move rfl) ?_)
            refine TL.cons (TO.val rfl rfl rfl (Val.move rfl) ?_)
            refine TL.cons (TO.val rfl rfl rfl (Val.cmp rfl rfl run_lss) ?_)
            refine TL.nil ?_
            refine TQ.then_ ?_
            refine TC.cond_p rfl h (fun hc291 h => ?_) (fun hc291 h => ?_)
            · refine TC.skip ?_
              refine TQ.then_ ?_
              refine TC.seq ?_
              refine TC.block ?_
              refine TC.seq ?_
              refine TC.region ?_
              refine TL.cons (TO.val rfl rfl rfl (Val.fieldAddrB Tryd.underlying36 rfl fsz34 rfl rfl rfl) ?_)
              refine TL.cons (TO.val rfl rfl rfl (Val.loadB 0 agg34 rfl rfl rfl) ?_)
              refine TL.cons (TO.val rfl rfl rfl (Val.move rfl) ?_)
              obtain ⟨y317, hx318, h⟩ := bind_no h
              obtain ⟨ad319, cs325, hA320, hi321, hj322, hcl323, hK324⟩ := Rd.at hr3 hx318
              obtain ⟨A326, c327, rfl, hr328, hl329⟩ := k36_openR hK324
              refine TL.cons (TO.val rfl rfl rfl (Val.indexAddr Tryd.underlying34 fsz36 rfl hA320 rfl hi321 hj322) ?_)
              refine TL.cons (TO.val rfl rfl rfl (Val.loadsS (cs := [.int .i64 y317.f0, .string y317.f1, .int .i64 y317.f2, .slice A326 y317.f3.length c327]) agg36 fsz36 rfl rfl (Cl.sub (off := 0) (n := 4) hcl323 rfl)) ?_)
              obtain ⟨y330, hy331, h⟩ := bind_no h
              refine TL.cons (TL.callV (Lin := []) (args := [.agg #[.int .i64 y317.f0, .string y317.f1, .int .i64 y317.f2, .slice A326 y317.f3.length c327]]) rfl rfl rfl hbd40 rfl rfl (ih40 (a0 := y317) hr328 hl329 hy331) rfl ?_)
              rintro _ _ _ _ ⟨rfl, A332, c333, rfl, rfl⟩
              refine TL.cons (TO.val rfl rfl rfl (Val.move rfl) ?_)
              refine TL.cons (TO.val rfl rfl rfl (Val.extract rfl rfl) ?_)
              refine TL.cons (TO.val rfl rfl rfl (Val.extract rfl rfl) ?_)
              refine TL.cons (TL.alloc (cs := [.int .i64 0, .int .i64 0, .slice none 0 0]) rfl rfl zr24 rfl (fun b335 => ?_))
              refine TL.cons (TL.store 0 (ds := [.int .i64 y330.1.f0, .int .i64 y330.1.f1, .slice A332 y330.1.f2.length c333]) (cs' := [.int .i64 y330.1.f0, .int .i64 y330.1.f1, .slice A332 y330.1.f2.length c333]) (L' := (Blk b335 [.int .i64 y330.1.f0, .int .i64 y330.1.f1, .slice A332 y330.1.f2.length c333] 24 :: Row k24 24 (.slice A332 y330.1.f2.length c333) y330.1.f2 :: Blk b5 [.int .i64 a0.f0, .string a0.f1, .int .i64 a0.f2, .slice A1 a0.f3.length c2] 36 :: Blk b6 [.int .i64 0, .int .i64 0, .slice none 0 0] 24 :: Blk b7 [.int .i64 x49, .int .i64 x50, .slice A177 l176.length c178] 24 :: Row k24 24 (.slice A177 l176.length c178) l176 :: L)) rfl fsz24 rfl rfl rfl rfl rfl (Nat.le_of_ble_eq_true rfl) rfl rfl ?_)
              refine TL.cons (TO.val rfl rfl rfl (Val.assign rfl) ?_)
              refine TL.nil ?_
              refine TQ.then_ ?_
              refine TC.seq ?_
              refine TC.seq ?_
              refine TC.region ?_
              refine TL.cons (TO.val rfl rfl rfl (Val.move rfl) ?_)
              refine TL.cons (TO.val rfl rfl rfl (Val.not_ rfl) ?_)
              refine TL.nil ?_
              refine TQ.then_ ?_
              refine TC.cond_b rfl h (fun hc337 h => ?_) (fun hc337 h => ?_)
              · refine TC.seq ?_
                refine TC.region ?_
                refine TL.cons (TO.val rfl rfl rfl (Val.loadsB 4 (cs := [.int .i64 x49, .int .i64 x50, .slice A177 l176.length c178]) agg24 fsz24 rfl rfl rfl rfl) ?_)
                refine TL.cons (TL.store 3 (ds := [.int .i64 x49, .int .i64 x50, .slice A177 l176.length c178]) (cs' := [.int .i64 x49, .int .i64 x50, .slice A177 l176.length c178]) (L' := (Blk b335 [.int .i64 y330.1.f0, .int .i64 y330.1.f1, .slice A332 y330.1.f2.length c333] 24 :: Row k24 24 (.slice A332 y330.1.f2.length c333) y330.1.f2 :: Blk b5 [.int .i64 a0.f0, .string a0.f1, .int .i64 a0.f2, .slice A1 a0.f3.length c2] 36 :: Blk b6 [.int .i64 x49, .int .i64 x50, .slice A177 l176.length c178] 24 :: Blk b7 [.int .i64 x49, .int .i64 x50, .slice A177 l176.length c178] 24 :: Row k24 24 (.slice A177 l176.length c178) l176 :: L)) rfl fsz24 rfl rfl rfl rfl rfl (Nat.le_of_ble_eq_true rfl) rfl rfl ?_)
                refine TL.cons (TO.val rfl rfl rfl (Val.assign rfl) ?_)
                refine TL.nil ?_
                refine TQ.then_ ?_
                refine TC.ret ?_
                refine TQ.thenR ?_
                refine TQ.inBR ?_
                refine TQ.thenR ?_
                refine TQ.thenR ?_
                refine TQ.inBR ?_
                refine TQ.thenR ?_
                refine TQ.thenR ?_
                obtain rfl := Option.some.inj h
                have h := ko236
                obtain rfl := Option.some.inj h
                exact TQ.fin (.inl rfl) rfl Tryd.results40 (.cells 3 rfl rfl agg24 fsz24 (.tmp rfl .nil)) rfl (FRel.mk (Ls := [Row k24 24 (.slice A177 l176.length c178) l176]) [5] 6 (Gd.le.refl _) rfl rfl rfl ⟨rfl, A177, c178, rfl, rfl⟩)
              · refine TC.skip ?_
                refine TQ.then_ ?_
                refine TC.region ?_
                refine TL.cons (TO.val rfl rfl rfl (Val.fieldAddrB Tryd.underlying24 rfl fsz22 rfl rfl rfl) ?_)
                refine TL.cons (TO.val rfl rfl rfl (Val.loadB 4 agg22 rfl rfl rfl) ?_)
                refine TL.cons (TO.val rfl rfl rfl (Val.loadsB 0 (cs := [.int .i64 y330.1.f0, .int .i64 y330.1.f1, .slice A332 y330.1.f2.length c333]) agg24 fsz24 rfl rfl rfl rfl) ?_)
                refine TL.cons (TL.buildSlice (xs := [.tmp 75]) (vs := [.agg #[.int .i64 y330.1.f0, .int .i64 y330.1.f1, .slice A332 y330.1.f2.length c333]]) (cs := [.int .i64 y330.1.f0, .int .i64 y330.1.f1, .slice A332 y330.1.f2.length c333]) rfl rfl Tryd.underlying22 zs24 rfl rfl rfl rfl rfl rfl rfl rfl (fun b338 => ?_))
                refine TK.sel (Ls := [Row k24 24 (.slice A332 y330.1.f2.length c333) y330.1.f2, Blk b338 [.int .i64 y330.1.f0, .int .i64 y330.1.f1, .slice A332 y330.1.f2.length c333] 24, Blk b335 [.int .i64 y330.1.f0, .int .i64 y330.1.f1, .slice A332 y330.1.f2.length c333] 24, Blk b5 [.int .i64 a0.f0, .string a0.f1, .int .i64 a0.f2, .slice A1 a0.f3.length c2] 36, Blk b6 [.int .i64 0, .int .i64 0, .slice none 0 0] 24, Blk b7 [.int .i64 x49, .int .i64 x50, .slice A177 l176.length c178] 24, Row k24 24 (.slice A177 l176.length c178) l176]) [2, 0, 1, 3, 4, 5, 6] 7 rfl rfl rfl ?_
                refine TK.conv (ch' := El k24 y330.1 [.int .i64 y330.1.f0, .int .i64 y330.1.f1, .slice A332 y330.1.f2.length c333]) (fun B W F hh => k24_mkM W B F y330.1 hh) ?_
                refine TK.sel (Ls := [Row k24 24 (.slice A177 l176.length c178) l176, El k24 y330.1 [.int .i64 y330.1.f0, .int .i64 y330.1.f1, .slice A332 y330.1.f2.length c333], Blk b338 [.int .i64 y330.1.f0, .int .i64 y330.1.f1, .slice A332 y330.1.f2.length c333] 24, Blk b335 [.int .i64 y330.1.f0, .int .i64 y330.1.f1, .slice A332 y330.1.f2.length c333] 24, Blk b5 [.int .i64 a0.f0, .string a0.f1, .int .i64 a0.f2, .slice A1 a0.f3.length c2] 36, Blk b6 [.int .i64 0, .int .i64 0, .slice none 0 0] 24, Blk b7 [.int .i64 x49, .int .i64 x50, .slice A177 l176.length c178] 24]) [6, 0, 1, 2, 3, 4, 5] 7 rfl rfl rfl ?_
                obtain ⟨ha339, h⟩ := ite_no h
                refine TL.cons (TL.append (xs := l176) k24 rfl rfl Tryd.underlying22 inf24 rfl (Nat.le_of_ble_eq_true rfl) (Nat.le_of_ble_eq_true rfl) rfl rfl (by omega) (fun A340 c341 => ?_))
                refine TL.cons (TO.val rfl rfl rfl (Val.fieldAddrB Tryd.underlying24 rfl fsz22 rfl rfl rfl) ?_)
                refine TL.cons (TL.store 4 (ds := [.slice A340 (l176 ++ [y330.1]).length c341]) (cs' := [.int .i64 x49, .int .i64 x50, .slice A340 (l176 ++ [y330.1]).length c341]) (L' := (Row k24 24 (.slice A340 (l176 ++ [y330.1]).length c341) (l176 ++ [y330.1]) :: Blk b335 [.int .i64 y330.1.f0, .int .i64 y330.1.f1, .slice A332 y330.1.f2.length c333] 24 :: Blk b5 [.int .i64 a0.f0, .string a0.f1, .int .i64 a0.f2, .slice A1 a0.f3.length c2] 36 :: Blk b6 [.int .i64 0, .int .i64 0, .slice none 0 0] 24 :: Blk b7 [.int .i64 x49, .int .i64 x50, .slice A340 (l176 ++ [y330.1]).length c341] 24 :: L)) rfl fsz22 rfl rfl rfl rfl rfl (Nat.le_of_ble_eq_true rfl) rfl rfl ?_)
                refine TL.nil ?_
                refine TQ.inB ?_
                refine TQ.then_ ?_
                refine TC.region ?_
                refine TL.cons (TO.val rfl rfl rfl (Val.move rfl) ?_)
                refine TL.cons (TO.val rfl rfl rfl (Val.cmp rfl rfl run_add) ?_)
                refine TL.cons (TO.val rfl rfl rfl (Val.assign rfl) ?_)
                refine TL.nil ?_
                exact fun a W hF hO => ⟨IntKind.i64.wrap (x175 + 1), (l176 ++ [y330.1]), A340, c341, h, hF.sub ⟨rfl, rfl, rfl, rfl, rfl, trivial⟩, hO.selT (Ls := [Blk b5 [.int .i64 a0.f0, .string a0.f1, .int .i64 a0.f2, .slice A1 a0.f3.length c2] 36, Blk b6 [.int .i64 0, .int .i64 0, .slice none 0 0] 24, Blk b7 [.int .i64 x49, .int .i64 x50, .slice A340 (l176 ++ [y330.1]).length c341] 24, Row k24 24 (.slice A340 (l176 ++ [y330.1]).length c341) (l176 ++ [y330.1])]) [2, 3, 4, 0] 5 rfl rfl rfl⟩
            · refine TC.exit ?_
              refine TQ.thenX ?_
              refine TQ.thenX ?_
              refine TQ.inBX ?_
              exact fun a W hF hO => ⟨l176, A177, c178, Option.some.inj h, hF.sub ⟨rfl, rfl, trivial⟩, hO.selT (Ls := [Blk b6 [.int .i64 0, .int .i64 0, .slice none 0 0] 24, Blk b7 [.int .i64 x49, .int .i64 x50, .slice A177 l176.length c178] 24, Row k24 24 (.slice A177 l176.length c178) l176]) [1, 2, 3] 4 rfl rfl rfl⟩
    · refine TC.region ?_
      refine TL.cons (TO.val rfl rfl rfl (Val.move rfl) ?_)
      refine TL.cons (TO.val rfl rfl rfl (Val.cmp rfl rfl run_lss) ?_)
      refine TL.cons (TO.val rfl rfl rfl (Val.move rfl) ?_)
      refine TK.split (p := (a0.f3.length : Int) < 1) h (fun hg342 h => ?_) (fun hg342 h => ?_)
      · have hk343 : decide ((a0.f3.length : Int) < 1) = true := decide_eq_true hg342
        refine TL.cons (TL.not (Wt.no rfl rfl rfl hk343) rfl ?_)
        refine TL.cons (TL.not (Wt.no rfl rfl rfl hk343) rfl ?_)
        refine TL.cons (TL.not (Wt.no rfl rfl rfl hk343) rfl ?_)
        refine TL.cons (TL.not rfl rfl ?_)
        refine TL.cons (TL.not rfl rfl ?_)
        refine TL.cons (TL.not rfl rfl ?_)
        refine TL.cons (TL.not (Wt.no rfl rfl rfl hk343) rfl ?_)
        refine TL.cons (TO.val rfl rfl rfl (Val.pickY rfl hk343 rfl) ?_)
        refine TL.nil ?_
        exact fun a W hF hO => ⟨true, h, hF.sub ⟨rfl, rfl, rfl, rfl, rfl, trivial⟩, hO.selT (Ls := [Blk b5 [.int .i64 a0.f0, .string a0.f1, .int .i64 a0.f2, .slice A1 a0.f3.length c2] 36, Blk b6 [.int .i64 0, .int .i64 0, .slice none 0 0] 24, Blk b7 [.int .i64 x49, .int .i64 x50, .slice none 0 0] 24]) [0, 1, 2] 3 rfl rfl rfl⟩
      · have hk344 : decide ((a0.f3.length : Int) < 1) = false := decide_eq_false hg342
        refine TL.cons (TO.val (Wt.yes rfl rfl rfl hk344) rfl rfl (Val.move rfl) ?_)
        refine TL.cons (TO.val (Wt.yes rfl rfl rfl hk344) rfl rfl (Val.cmp rfl rfl run_gtr) ?_)
        refine TL.cons (TO.val (Wt.yes rfl rfl rfl hk344) rfl rfl (Val.move rfl) ?_)
        refine TK.split (p := 1 < (a0.f3.length : Int)) h (fun hg345 h => ?_) (fun hg345 h => ?_)
        · have hk346 : decide (1 < (a0.f3.length : Int)) = true := decide_eq_true hg345
          refine TL.cons (TO.val (Wt.yes rfl rfl rfl hk346) rfl rfl (Val.fieldAddrB Tryd.underlying36 rfl fsz3 rfl rfl rfl) ?_)
          refine TL.cons (TO.val (Wt.yes rfl rfl rfl hk346) rfl rfl (Val.loadB 0 agg3 rfl rfl rfl) ?_)
          refine TL.cons (TO.val (Wt.yes rfl rfl rfl hk346) rfl rfl (Val.cmp rfl rfl run_neq) ?_)
          refine TL.cons (TO.val (Wt.yes rfl rfl rfl hk344) rfl rfl (Val.pickY rfl hk346 rfl) ?_)
          refine TL.cons (TO.val rfl rfl rfl (Val.pickN rfl hk344 rfl) ?_)
          refine TL.nil ?_
          exact fun a W hF hO => ⟨(!decide (a0.f0 = 8)), h, hF.sub ⟨rfl, rfl, rfl, rfl, rfl, trivial⟩, hO.selT (Ls := [Blk b5 [.int .i64 a0.f0, .string a0.f1, .int .i64 a0.f2, .slice A1 a0.f3.length c2] 36, Blk b6 [.int .i64 0, .int .i64 0, .slice none 0 0] 24, Blk b7 [.int .i64 x49, .int .i64 x50, .slice none 0 0] 24]) [0, 1, 2] 3 rfl rfl rfl⟩
        · have hk347 : decide (1 < (a0.f3.length : Int)) = false := decide_eq_false hg345
          refine TL.cons (TL.not (Wt.no rfl rfl rfl hk347) rfl ?_)
          refine TL.cons (TL.not (Wt.no rfl rfl rfl hk347) rfl ?_)
          refine TL.cons (TL.not (Wt.no rfl rfl rfl hk347) rfl ?_)
          refine TL.cons (TO.val (Wt.yes rfl rfl rfl hk344) rfl rfl (Val.pickN rfl hk347 rfl) ?_)
          refine TL.cons (TO.val rfl rfl rfl (Val.pickN rfl hk344 rfl) ?_)
          refine TL.nil ?_
          exact fun a W hF hO => ⟨false, h, hF.sub ⟨rfl, rfl, rfl, rfl, rfl, trivial⟩, hO.selT (Ls := [Blk b5 [.int .i64 a0.f0, .string a0.f1, .int .i64 a0.f2, .slice A1 a0.f3.length c2] 36, Blk b6 [.int .i64 0, .int .i64 0, .slice none 0 0] 24, Blk b7 [.int .i64 x49, .int .i64 x50, .slice none 0 0] 24]) [0, 1, 2] 3 rfl rfl rfl⟩
  · refine TC.cond_p rfl h (fun hc348 h => ?_) (fun hc348 h => ?_)
    · refine TC.seq ?_
      refine TC.region ?_
      refine TL.cons (TO.val rfl rfl rfl (Val.fieldAddrB Tryd.underlying24 rfl fsz3 rfl rfl rfl) ?_)
      refine TL.cons (TL.store 0 (ds := [.int .i64 1]) (cs' := [.int .i64 1, .int .i64 0, .slice none 0 0]) (L' := (Blk b7 [.int .i64 1, .int .i64 0, .slice none 0 0] 24 :: Blk b6 [.int .i64 0, .int .i64 0, .slice none 0 0] 24 :: Blk b5 [.int .i64 a0.f0, .string a0.f1, .int .i64 a0.f2, .slice A1 a0.f3.length c2] 36 :: L)) rfl fsz3 rfl rfl rfl rfl rfl (Nat.le_of_ble_eq_true rfl) rfl rfl ?_)
      refine TL.nil ?_
      refine TQ.then_ ?_
      refine TC.seq ?_
      refine TC.region ?_
      refine TL.cons (TO.val rfl rfl rfl (Val.loadsB 0 (cs := [.int .i64 1, .int .i64 0, .slice none 0 0]) agg24 fsz24 rfl rfl rfl rfl) ?_)
      refine TL.cons (TO.val rfl rfl rfl (Val.move rfl) ?_)
      refine TL.cons (TO.val rfl rfl rfl (Val.cmp rfl rfl run_eql) ?_)
      refine TL.cons (TL.store 1 (ds := [.int .i64 1, .int .i64 0, .slice none 0 0]) (cs' := [.int .i64 1, .int .i64 0, .slice none 0 0]) (L' := (Blk b7 [.int .i64 1, .int .i64 0, .slice none 0 0] 24 :: Blk b6 [.int .i64 1, .int .i64 0, .slice none 0 0] 24 :: Blk b5 [.int .i64 a0.f0, .string a0.f1, .int .i64 a0.f2, .slice A1 a0.f3.length c2] 36 :: L)) rfl fsz24 rfl rfl rfl rfl rfl (Nat.le_of_ble_eq_true rfl) rfl rfl ?_)
      refine TL.cons (TO.val rfl rfl rfl (Val.assign rfl) ?_)
      refine TL.nil ?_
      refine TQ.then_ ?_
      refine TC.ret ?_
      refine TQ.thenR ?_
      refine TQ.inBR ?_
      refine TQ.thenR ?_
      refine TQ.nilRow k24 24 ?_
      obtain rfl := Option.some.inj h
      exact TQ.fin (.inl rfl) rfl Tryd.results40 (.cells 2 rfl rfl agg24 fsz24 (.tmp rfl .nil)) rfl (FRel.mk (Ls := [Row k24 24 (.slice none 0 0) ([] : List S24)]) [0] 4 (Gd.le.refl _) rfl rfl rfl ⟨rfl, none, 0, rfl, rfl⟩)
    · refine TC.seq ?_
      refine TC.region ?_
      refine TL.cons (TO.val rfl rfl rfl (Val.cmp rfl rfl run_eql) ?_)
      refine TL.cons (TO.val rfl rfl rfl (Val.assign rfl) ?_)
      refine TL.nil ?_
      refine TQ.then_ ?_
      refine TC.cond_p rfl h (fun hc357 h => ?_) (fun hc357 h => ?_)
      · refine TC.region ?_
        refine TL.cons (TO.val rfl rfl rfl (Val.fieldAddrB Tryd.underlying24 rfl fsz3 rfl rfl rfl) ?_)
        refine TL.cons (TL.store 0 (ds := [.int .i64 2]) (cs' := [.int .i64 2, .int .i64 0, .slice none 0 0]) (L' := (Blk b7 [.int .i64 2, .int .i64 0, .slice none 0 0] 24 :: Blk b6 [.int .i64 0, .int .i64 0, .slice none 0 0] 24 :: Blk b5 [.int .i64 a0.f0, .string a0.f1, .int .i64 a0.f2, .slice A1 a0.f3.length c2] 36 :: L)) rfl fsz3 rfl rfl rfl rfl rfl (Nat.le_of_ble_eq_true rfl) rfl rfl ?_)
        refine TL.nil ?_
        exact fun a W hF hO => ⟨2, 0, h, hF.sub ⟨rfl, rfl, rfl, rfl, trivial⟩, hO.selT (Ls := [Blk b5 [.int .i64 a0.f0, .string a0.f1, .int .i64 a0.f2, .slice A1 a0.f3.length c2] 36, Blk b6 [.int .i64 0, .int .i64 0, .slice none 0 0] 24, Blk b7 [.int .i64 2, .int .i64 0, .slice none 0 0] 24]) [2, 1, 0] 3 rfl rfl rfl⟩
      · refine TC.seq ?_
        refine TC.region ?_
        refine TL.cons (TO.val rfl rfl rfl (Val.cmp rfl rfl run_eql) ?_)
        refine TL.cons (TO.val rfl rfl rfl (Val.assign rfl) ?_)
        refine TL.nil ?_
        refine TQ.then_ ?_
        refine TC.cond_p rfl h (fun hc364 h => ?_) (fun hc364 h => ?_)
        · refine TC.seq ?_
          refine TC.region ?_
          refine TL.cons (TO.val rfl rfl rfl (Val.fieldAddrB Tryd.underlying24 rfl fsz3 rfl rfl rfl) ?_)
          refine TL.cons (TL.store 0 (ds := [.int .i64 3]) (cs' := [.int .i64 3, .int .i64 0, .slice none 0 0]) (L' := (Blk b7 [.int .i64 3, .int .i64 0, .slice none 0 0] 24 :: Blk b6 [.int .i64 0, .int .i64 0, .slice none 0 0] 24 :: Blk b5 [.int .i64 a0.f0, .string a0.f1, .int .i64 a0.f2, .slice A1 a0.f3.length c2] 36 :: L)) rfl fsz3 rfl rfl rfl rfl rfl (Nat.le_of_ble_eq_true rfl) rfl rfl ?_)
          refine TL.nil ?_
          refine TQ.then_ ?_
          refine TC.seq ?_
          refine TC.region ?_
          refine TL.cons (TO.val rfl rfl rfl (Val.fieldAddrB Tryd.underlying36 rfl fsz9 rfl rfl rfl) ?_)
          refine TL.cons (TO.val rfl rfl rfl (Val.loadB 2 agg9 rfl rfl rfl) ?_)
          obtain ⟨y365, hy366, h⟩ := bind_no h
          refine TL.cons (TL.callV (Lin := []) (args := [.string a0.f1]) rfl rfl rfl hbd49 rfl rfl (swageref09_Number.calls (a0 := a0.f1) hy366) rfl ?_)
          rintro _ _ _ _ ⟨rfl, rfl, rfl⟩
          refine TL.cons (TO.val rfl rfl rfl (Val.move rfl) ?_)
          refine TL.cons (TO.val rfl rfl rfl (Val.extract rfl rfl) ?_)
          refine TL.cons (TO.val rfl rfl rfl (Val.extract rfl rfl) ?_)
          refine TL.cons (TO.val rfl rfl rfl (Val.assign rfl) ?_)
          refine TL.cons (TO.val rfl rfl rfl (Val.assign rfl) ?_)
          refine TL.nil ?_
          refine TQ.then_ ?_
          refine TC.seq ?_
          refine TC.seq ?_
          refine TC.region ?_
          refine TL.cons (TO.val rfl rfl rfl (Val.move rfl) ?_)
          refine TL.cons (TO.val rfl rfl rfl (Val.not_ rfl) ?_)
          refine TL.nil ?_
          refine TQ.then_ ?_
          refine TC.cond_b rfl h (fun hc368 h => ?_) (fun hc368 h => ?_)
          · refine TC.seq ?_
            refine TC.region ?_
            refine TL.cons (TO.val rfl rfl rfl (Val.loadsB 0 (cs := [.int .i64 3, .int .i64 0, .slice none 0 0]) agg24 fsz24 rfl rfl rfl rfl) ?_)
            refine TL.cons (TL.store 1 (ds := [.int .i64 3, .int .i64 0, .slice none 0 0]) (cs' := [.int .i64 3, .int .i64 0, .slice none 0 0]) (L' := (Blk b7 [.int .i64 3, .int .i64 0, .slice none 0 0] 24 :: Blk b6 [.int .i64 3, .int .i64 0, .slice none 0 0] 24 :: Blk b5 [.int .i64 a0.f0, .string a0.f1, .int .i64 a0.f2, .slice A1 a0.f3.length c2] 36 :: L)) rfl fsz24 rfl rfl rfl rfl rfl (Nat.le_of_ble_eq_true rfl) rfl rfl ?_)
            refine TL.cons (TO.val rfl rfl rfl (Val.assign rfl) ?_)
            refine TL.nil ?_
            refine TQ.then_ ?_
            refine TC.ret ?_
            refine TQ.thenR ?_
            refine TQ.thenR ?_
            refine TQ.inBR ?_
            refine TQ.thenR ?_
            refine TQ.nilRow k24 24 ?_
            obtain rfl := Option.some.inj h
            exact TQ.fin (.inl rfl) rfl Tryd.results40 (.cells 2 rfl rfl agg24 fsz24 (.tmp rfl .nil)) rfl (FRel.mk (Ls := [Row k24 24 (.slice none 0 0) ([] : List S24)]) [0] 4 (Gd.le.refl _) rfl rfl rfl ⟨rfl, none, 0, rfl, rfl⟩)
          · refine TC.skip ?_
            refine TQ.then_ ?_
            refine TC.region ?_
            refine TL.cons (TO.val rfl rfl rfl (Val.move rfl) ?_)
            refine TL.cons (TO.val rfl rfl rfl (Val.fieldAddrB Tryd.underlying24 rfl fsz3 rfl rfl rfl) ?_)
            refine TL.cons (TL.store 0 (ds := [.int .i64 y365.1]) (cs' := [.int .i64 3, .int .i64 y365.1, .slice none 0 0]) (L' := (Blk b7 [.int .i64 3, .int .i64 y365.1, .slice none 0 0] 24 :: Blk b6 [.int .i64 0, .int .i64 0, .slice none 0 0] 24 :: Blk b5 [.int .i64 a0.f0, .string a0.f1, .int .i64 a0.f2, .slice A1 a0.f3.length c2] 36 :: L)) rfl fsz3 rfl rfl rfl rfl rfl (Nat.le_of_ble_eq_true rfl) rfl rfl ?_)
            refine TL.nil ?_
            exact fun a W hF hO => ⟨3, y365.1, h, hF.sub ⟨rfl, rfl, rfl, rfl, trivial⟩, hO.selT (Ls := [Blk b5 [.int .i64 a0.f0, .string a0.f1, .int .i64 a0.f2, .slice A1 a0.f3.length c2] 36, Blk b6 [.int .i64 0, .int .i64 0, .slice none 0 0] 24, Blk b7 [.int .i64 3, .int .i64 y365.1, .slice none 0 0] 24]) [2, 1, 0] 3 rfl rfl rfl⟩
        · refine TC.seq ?_
          refine TC.region ?_
          refine TL.cons (TO.val rfl rfl rfl (Val.cmp rfl rfl run_eql) ?_)
          refine TL.cons (TO.val rfl rfl rfl (Val.assign rfl) ?_)
          refine TL.nil ?_
          refine TQ.then_ ?_
          refine TC.cond_p rfl h (fun hc371 h => ?_) (fun hc371 h => ?_)
          · refine TC.region ?_
            refine TL.cons (TO.val rfl rfl rfl (Val.fieldAddrB Tryd.underlying24 rfl fsz3 rfl rfl rfl) ?_)
            refine TL.cons (TL.store 0 (ds := [.int .i64 4]) (cs' := [.int .i64 4, .int .i64 0, .slice none 0 0]) (L' := (Blk b7 [.int .i64 4, .int .i64 0, .slice none 0 0] 24 :: Blk b6 [.int .i64 0, .int .i64 0, .slice none 0 0] 24 :: Blk b5 [.int .i64 a0.f0, .string a0.f1, .int .i64 a0.f2, .slice A1 a0.f3.length c2] 36 :: L)) rfl fsz3 rfl rfl rfl rfl rfl (Nat.le_of_ble_eq_true rfl) rfl rfl ?_)
            refine TL.nil ?_
            exact fun a W hF hO => ⟨4, 0, h, hF.sub ⟨rfl, rfl, rfl, rfl, trivial⟩, hO.selT (Ls := [Blk b5 [.int .i64 a0.f0, .string a0.f1, .int .i64 a0.f2, .slice A1 a0.f3.length c2] 36, Blk b6 [.int .i64 0, .int .i64 0, .slice none 0 0] 24, Blk b7 [.int .i64 4, .int .i64 0, .slice none 0 0] 24]) [2, 1, 0] 3 rfl rfl rfl⟩
          · refine TC.seq ?_
            refine TC.region ?_
            refine TL.cons (TO.val rfl rfl rfl (Val.loadsB 0 (cs := [.int .i64 0, .int .i64 0, .slice none 0 0]) agg24 fsz24 rfl rfl rfl rfl) ?_)
            refine TL.cons (TL.store 1 (ds := [.int .i64 0, .int .i64 0, .slice none 0 0]) (cs' := [.int .i64 0, .int .i64 0, .slice none 0 0]) (L' := (Blk b7 [.int .i64 0, .int .i64 0, .slice none 0 0] 24 :: Blk b6 [.int .i64 0, .int .i64 0, .slice none 0 0] 24 :: Blk b5 [.int .i64 a0.f0, .string a0.f1, .int .i64 a0.f2, .slice A1 a0.f3.length c2] 36 :: L)) rfl fsz24 rfl rfl rfl rfl rfl (Nat.le_of_ble_eq_true rfl) rfl rfl ?_)
            refine TL.cons (TO.val rfl rfl rfl (Val.assign rfl) ?_)
            refine TL.nil ?_
            refine TQ.then_ ?_
            refine TC.ret ?_
            refine TQ.thenR ?_
            refine TQ.inBR ?_
            refine TQ.thenR ?_
            refine TQ.nilRow k24 24 ?_
            obtain rfl := Option.some.inj h
            exact TQ.fin (.inl rfl) rfl Tryd.results40 (.cells 2 rfl rfl agg24 fsz24 (.tmp rfl .nil)) rfl (FRel.mk (Ls := [Row k24 24 (.slice none 0 0) ([] : List S24)]) [0] 4 (Gd.le.refl _) rfl rfl rfl ⟨rfl, none, 0, rfl, rfl⟩)
def swageref11_of.fix : Nat → (S36 → Option (S24 × Bool))
  | 0 => (fun _ => none)
  | n + 1 => swageref11_of.g (swageref11_of.fix n)
theorem swageref11_of.fixc : ∀ k, (∀ {G : Gd} {r : (S24 × Bool)} {a0 : S36} {A1 : Option Addr} {c2 : Nat} (hr3 : Rd G k36 A1 a0.f3) (hl4 : a0.f3.length ≤ c2), (swageref11_of.fix k) a0 = some r → Fn Tryd.prog 40 G [] [.agg #[.int .i64 a0.f0, .string a0.f1, .int .i64 a0.f2, .slice A1 a0.f3.length c2]] (swageref11_of.post G r)) ∧ True
  | 0 => ⟨(by intros; contradiction), trivial⟩
  | k + 1 => by
    have ih := swageref11_of.fixc k
    exact ⟨(by
      intro G r a0 A1 c2 hr3 hl4 h
      exact swageref11_of.step _ ih.1 hr3 hl4 h), trivial⟩
def swageref11_of.f (a0 : S36) : Option (S24 × Bool) := (swageref11_of.fix 1000) a0
theorem swageref11_of.calls {G : Gd} {r : (S24 × Bool)} {a0 : S36} {A1 : Option Addr} {c2 : Nat} (hr3 : Rd G k36 A1 a0.f3) (hl4 : a0.f3.length ≤ c2) (h : swageref11_of.f a0 = some r) : Fn Tryd.prog 40 G [] [.agg #[.int .i64 a0.f0, .string a0.f1, .int .i64 a0.f2, .slice A1 a0.f3.length c2]] (swageref11_of.post G r) := (swageref11_of.fixc 1000).1 hr3 hl4 h
end Go.Proofs.YtdklnjmdaecboaaDoor.Sy
set_option linter.unusedVariables false
set_option linter.unusedSimpArgs false
set_option maxRecDepth 100000
set_option maxHeartbeats 4000000
namespace Go.Proofs.YtdklnjmdaecboaaDoor.Sy
open Go Go.RowKit Go.Proofs.YtdklnjmdaecboaaDoorW.PrintWords 
def swageref11_Of.f (a0 : S36) : Option (S24 × Int) := (swageref11_of.f a0).bind fun (y7 : (S24 × Bool)) => (if (!y7.2) = true then some ((⟨0, 0, ([] : List S24)⟩ : S24), 1) else (swageref11_Right.f y7.1).bind fun (y22 : Bool) => (if (!y22) = true then some ((⟨0, 0, ([] : List S24)⟩ : S24), 5) else some (y7.1, 0)))
def swageref11_Of.post (G : Gd) (r : (S24 × Int)) (v : Value) (G' : Gd) (Lr : List Ch) : Prop := G = G' ∧ ∃ (A_1 : Option Addr) (c_1 : Nat), v = .tuple #[.agg #[.int .i64 r.1.f0, .int .i64 r.1.f1, .slice A_1 r.1.f2.length c_1], .int .i64 r.2] ∧ Lr = [Row k24 24 (.slice A_1 r.1.f2.length c_1) r.1.f2]
theorem swageref11_Of.calls {G : Gd} {r : (S24 × Int)} {a0 : S36} {A1 : Option Addr} {c2 : Nat} (hr3 : Rd G k36 A1 a0.f3) (hl4 : a0.f3.length ≤ c2) (h : swageref11_Of.f a0 = some r) : Fn Tryd.prog 26 G [] [.agg #[.int .i64 a0.f0, .string a0.f1, .int .i64 a0.f2, .slice A1 a0.f3.length c2]] (swageref11_Of.post G r) := by
  refine Fn.intro (e := [(0, .agg #[.int .i64 a0.f0, .string a0.f1, .int .i64 a0.f2, .slice A1 a0.f3.length c2])]) 21 Tryd.func26 rfl Tryd.ntmps26 rfl rfl (Nat.le_of_ble_eq_true rfl) (fun L => ?_)
  unfold swageref11_Of.f at h
  refine TC.seq ?_
  refine TC.region ?_
  refine TL.cons (TL.box (cs := [.int .i64 a0.f0, .string a0.f1, .int .i64 a0.f2, .slice A1 a0.f3.length c2]) rfl rfl rfl rfl (fun b5 => ?_))
  refine TL.cons (TL.alloc (cs := [.int .i64 0, .int .i64 0, .slice none 0 0]) rfl rfl zr24 rfl (fun b6 => ?_))
  refine TL.cons (TO.val rfl rfl rfl (Val.assign rfl) ?_)
  refine TL.nil ?_
  refine TQ.then_ ?_
  refine TC.seq ?_
  refine TC.region ?_
  refine TL.cons (TO.val rfl rfl rfl (Val.loadsB 1 (cs := [.int .i64 a0.f0, .string a0.f1, .int .i64 a0.f2, .slice A1 a0.f3.length c2]) agg36 fsz36 rfl rfl rfl rfl) ?_)
  obtain ⟨y7, hy8, h⟩ := bind_no h
  refine TL.cons (TL.callV (Lin := []) (args := [.agg #[.int .i64 a0.f0, .string a0.f1, .int .i64 a0.f2, .slice A1 a0.f3.length c2]]) rfl rfl rfl hbd40 rfl rfl (swageref11_of.calls (a0 := a0) hr3 hl4 hy8) rfl ?_)
  rintro _ _ _ _ ⟨rfl, A9, c10, rfl, rfl⟩
  refine TL.cons (TO.val rfl rfl rfl (Val.move rfl) ?_)
  refine TL.cons (TO.val rfl rfl rfl (Val.extract rfl rfl) ?_)
  refine TL.cons (TO.val rfl rfl rfl (Val.extract rfl rfl) ?_)
  refine TL.cons (TL.alloc (cs := [.int .i64 0, .int .i64 0, .slice none 0 0]) rfl rfl zr24 rfl (fun b12 => ?_))
  refine TL.cons (TL.store 0 (ds := [.int .i64 y7.1.f0, .int .i64 y7.1.f1, .slice A9 y7.1.f2.length c10]) (cs' := [.int .i64 y7.1.f0, .int .i64 y7.1.f1, .slice A9 y7.1.f2.length c10]) (L' := (Blk b12 [.int .i64 y7.1.f0, .int .i64 y7.1.f1, .slice A9 y7.1.f2.length c10] 24 :: Row k24 24 (.slice A9 y7.1.f2.length c10) y7.1.f2 :: Blk b6 [.int .i64 0, .int .i64 0, .slice none 0 0] 24 :: Blk b5 [.int .i64 a0.f0, .string a0.f1, .int .i64 a0.f2, .slice A1 a0.f3.length c2] 36 :: L)) rfl fsz24 rfl rfl rfl rfl rfl (Nat.le_of_ble_eq_true rfl) rfl rfl ?_)
  refine TL.cons (TO.val rfl rfl rfl (Val.assign rfl) ?_)
  refine TL.nil ?_
  refine TQ.then_ ?_
  refine TC.seq ?_
  refine TC.seq ?_
  refine TC.region ?_
  refine TL.cons (TO.val rfl rfl rfl (Val.move rfl) ?_)
  refine TL.cons (TO.val rfl rfl rfl (Val.not_ rfl) ?_)
  refine TL.nil ?_
  refine TQ.then_ ?_
  refine TC.cond_b rfl h (fun hc14 h => ?_) (fun hc14 h => ?_)
  · refine TC.seq ?_
    refine TC.region ?_
    refine TL.cons (TO.val rfl rfl rfl (Val.build (cs := [.int .i64 0, .int .i64 0, .slice none 0 0]) (is := []) (xs := []) Tryd.underlying24 zr24 bld24 rfl rfl rfl rfl) ?_)
    refine TL.cons (TL.store 2 (ds := [.int .i64 0, .int .i64 0, .slice none 0 0]) (cs' := [.int .i64 0, .int .i64 0, .slice none 0 0]) (L' := (Blk b12 [.int .i64 y7.1.f0, .int .i64 y7.1.f1, .slice A9 y7.1.f2.length c10] 24 :: Row k24 24 (.slice A9 y7.1.f2.length c10) y7.1.f2 :: Blk b6 [.int .i64 0, .int .i64 0, .slice none 0 0] 24 :: Blk b5 [.int .i64 a0.f0, .string a0.f1, .int .i64 a0.f2, .slice A1 a0.f3.length c2] 36 :: L)) rfl fsz24 rfl rfl rfl rfl rfl (Nat.le_of_ble_eq_true rfl) rfl rfl ?_)
    refine TL.cons (TO.val rfl rfl rfl (Val.assign rfl) ?_)
    refine TL.nil ?_
    refine TQ.then_ ?_
    refine TC.ret ?_
    refine TQ.thenR ?_
    refine TQ.nilRow k24 24 ?_
    obtain rfl := Option.some.inj h
    exact TQ.fin (.inl rfl) rfl Tryd.results26 (.cells 3 rfl rfl agg24 fsz24 (.tmp rfl .nil)) rfl (FRel.mk (Ls := [Row k24 24 (.slice none 0 0) ([] : List S24)]) [0] 5 (Gd.le.refl _) rfl rfl rfl ⟨rfl, none, 0, rfl, rfl⟩)
  · refine TC.skip ?_
    refine TQ.then_ ?_
    refine TC.seq ?_
    refine TC.region ?_
    refine TL.cons (TO.val rfl rfl rfl (Val.loadsB 0 (cs := [.int .i64 y7.1.f0, .int .i64 y7.1.f1, .slice A9 y7.1.f2.length c10]) agg24 fsz24 rfl rfl rfl rfl) ?_)
    refine TK.sel (Ls := [Row k24 24 (.slice A9 y7.1.f2.length c10) y7.1.f2, Blk b12 [.int .i64 y7.1.f0, .int .i64 y7.1.f1, .slice A9 y7.1.f2.length c10] 24, Blk b6 [.int .i64 0, .int .i64 0, .slice none 0 0] 24, Blk b5 [.int .i64 a0.f0, .string a0.f1, .int .i64 a0.f2, .slice A1 a0.f3.length c2] 36]) [1, 0, 2, 3] 4 rfl rfl rfl ?_
    refine TK.share (fun G16 e17 hs18 hb19 => ?_)
    have rd20 : Rd G16 k24 A9 y7.1.f2 := Rd.row hs18
    have le21 : y7.1.f2.length ≤ c10 := Row.le hs18
    obtain ⟨y22, hy23, h⟩ := bind_no h
    refine TL.cons (TL.callV (Lin := []) (args := [.agg #[.int .i64 y7.1.f0, .int .i64 y7.1.f1, .slice A9 y7.1.f2.length c10]]) rfl rfl rfl hbd16 rfl rfl (swageref11_Right.calls (a0 := y7.1) rd20 le21 hy23) rfl ?_)
    rintro _ _ _ _ ⟨rfl, rfl, rfl⟩
    refine TL.cons (TO.val rfl rfl rfl (Val.assign rfl) ?_)
    refine TL.nil ?_
    refine TQ.then_ ?_
    refine TC.seq ?_
    refine TC.seq ?_
    refine TC.region ?_
    refine TL.cons (TO.val rfl rfl rfl (Val.move rfl) ?_)
    refine TL.cons (TO.val rfl rfl rfl (Val.not_ rfl) ?_)
    refine TL.nil ?_
    refine TQ.then_ ?_
    refine TC.back hb19 ?_
    refine TC.cond_b rfl h (fun hc25 h => ?_) (fun hc25 h => ?_)
    · refine TC.seq ?_
      refine TC.region ?_
      refine TL.cons (TO.val rfl rfl rfl (Val.build (cs := [.int .i64 0, .int .i64 0, .slice none 0 0]) (is := []) (xs := []) Tryd.underlying24 zr24 bld24 rfl rfl rfl rfl) ?_)
      refine TL.cons (TL.store 2 (ds := [.int .i64 0, .int .i64 0, .slice none 0 0]) (cs' := [.int .i64 0, .int .i64 0, .slice none 0 0]) (L' := (Row k24 24 (.slice A9 y7.1.f2.length c10) y7.1.f2 :: Blk b12 [.int .i64 y7.1.f0, .int .i64 y7.1.f1, .slice A9 y7.1.f2.length c10] 24 :: Blk b6 [.int .i64 0, .int .i64 0, .slice none 0 0] 24 :: Blk b5 [.int .i64 a0.f0, .string a0.f1, .int .i64 a0.f2, .slice A1 a0.f3.length c2] 36 :: L)) rfl fsz24 rfl rfl rfl rfl rfl (Nat.le_of_ble_eq_true rfl) rfl rfl ?_)
      refine TL.cons (TO.val rfl rfl rfl (Val.assign rfl) ?_)
      refine TL.nil ?_
      refine TQ.then_ ?_
      refine TC.ret ?_
      refine TQ.thenR ?_
      refine TQ.nilRow k24 24 ?_
      obtain rfl := Option.some.inj h
      exact TQ.fin (.inl rfl) rfl Tryd.results26 (.cells 3 rfl rfl agg24 fsz24 (.tmp rfl .nil)) rfl (FRel.mk (Ls := [Row k24 24 (.slice none 0 0) ([] : List S24)]) [0] 5 (Gd.le.refl _) rfl rfl rfl ⟨rfl, none, 0, rfl, rfl⟩)
    · refine TC.skip ?_
      refine TQ.then_ ?_
      refine TC.seq ?_
      refine TC.region ?_
      refine TL.cons (TO.val rfl rfl rfl (Val.loadsB 1 (cs := [.int .i64 y7.1.f0, .int .i64 y7.1.f1, .slice A9 y7.1.f2.length c10]) agg24 fsz24 rfl rfl rfl rfl) ?_)
      refine TL.cons (TL.store 2 (ds := [.int .i64 y7.1.f0, .int .i64 y7.1.f1, .slice A9 y7.1.f2.length c10]) (cs' := [.int .i64 y7.1.f0, .int .i64 y7.1.f1, .slice A9 y7.1.f2.length c10]) (L' := (Row k24 24 (.slice A9 y7.1.f2.length c10) y7.1.f2 :: Blk b12 [.int .i64 y7.1.f0, .int .i64 y7.1.f1, .slice A9 y7.1.f2.length c10] 24 :: Blk b6 [.int .i64 y7.1.f0, .int .i64 y7.1.f1, .slice A9 y7.1.f2.length c10] 24 :: Blk b5 [.int .i64 a0.f0, .string a0.f1, .int .i64 a0.f2, .slice A1 a0.f3.length c2] 36 :: L)) rfl fsz24 rfl rfl rfl rfl rfl (Nat.le_of_ble_eq_true rfl) rfl rfl ?_)
      refine TL.cons (TO.val rfl rfl rfl (Val.assign rfl) ?_)
      refine TL.nil ?_
      refine TQ.then_ ?_
      refine TC.ret ?_
      obtain rfl := Option.some.inj h
      exact TQ.fin (.inl rfl) rfl Tryd.results26 (.cells 2 rfl rfl agg24 fsz24 (.tmp rfl .nil)) rfl (FRel.mk (Ls := [Row k24 24 (.slice A9 y7.1.f2.length c10) y7.1.f2]) [0] 4 (Gd.le.refl _) rfl rfl rfl ⟨rfl, A9, c10, rfl, rfl⟩)
end Go.Proofs.YtdklnjmdaecboaaDoor.Sy
set_option linter.unusedVariables false
set_option linter.unusedSimpArgs false
set_option maxRecDepth 100000
set_option maxHeartbeats 4000000
namespace Go.Proofs.YtdklnjmdaecboaaDoor.Sy
open Go Go.RowKit Go.Proofs.YtdklnjmdaecboaaDoorW.PrintWords 
def swagelaw11_TypesOf.f (a0 : S36) : Option Bool := (swagelaw11_small.f).bind fun (y6 : Bool) => (swagelaw10_Few.f a0).bind fun (y8 : Bool) => (if (!y8) = true then some y6 else (types_Of.f a0).bind fun (y12 : (S24 × Int)) => (swageref11_Of.f a0).bind fun (y18 : (S24 × Int)) => (if y6 = true then (swageref11_Same.f y12.1 y18.1).bind fun (y58 : Bool) => (if y58 = true then some (decide (y12.2 = y18.2)) else some false) else some false))
def swagelaw11_TypesOf.post (G : Gd) (r : Bool) (v : Value) (G' : Gd) (Lr : List Ch) : Prop := G = G' ∧ v = .bool r ∧ Lr = []
theorem swagelaw11_TypesOf.calls {G : Gd} {r : Bool} {a0 : S36} {A1 : Option Addr} {c2 : Nat} (ht : Tab G) (hr3 : Rd G k36 A1 a0.f3) (hl4 : a0.f3.length ≤ c2) (h : swagelaw11_TypesOf.f a0 = some r) : Fn Tryd.prog 4 G [] [.agg #[.int .i64 a0.f0, .string a0.f1, .int .i64 a0.f2, .slice A1 a0.f3.length c2]] (swagelaw11_TypesOf.post G r) := by
  refine Fn.intro (e := [(0, .agg #[.int .i64 a0.f0, .string a0.f1, .int .i64 a0.f2, .slice A1 a0.f3.length c2])]) 36 Tryd.func4 rfl Tryd.ntmps4 rfl rfl (Nat.le_of_ble_eq_true rfl) (fun L => ?_)
  unfold swagelaw11_TypesOf.f at h
  refine TC.seq ?_
  refine TC.region ?_
  refine TL.cons (TL.box (cs := [.int .i64 a0.f0, .string a0.f1, .int .i64 a0.f2, .slice A1 a0.f3.length c2]) rfl rfl rfl rfl (fun b5 => ?_))
  refine TL.cons (TO.val rfl rfl rfl (Val.assign rfl) ?_)
  refine TL.nil ?_
  refine TQ.then_ ?_
  refine TC.seq ?_
  refine TC.region ?_
  obtain ⟨y6, hy7, h⟩ := bind_no h
  refine TL.cons (TL.callV (Lin := []) (args := []) rfl rfl rfl hbd7 rfl rfl (swagelaw11_small.calls ht hy7) rfl ?_)
  rintro _ _ _ _ ⟨rfl, rfl, rfl⟩
  refine TL.cons (TO.val rfl rfl rfl (Val.assign rfl) ?_)
  refine TL.nil ?_
  refine TQ.then_ ?_
  refine TC.seq ?_
  refine TC.region ?_
  refine TL.cons (TO.val rfl rfl rfl (Val.loadsB 0 (cs := [.int .i64 a0.f0, .string a0.f1, .int .i64 a0.f2, .slice A1 a0.f3.length c2]) agg36 fsz36 rfl rfl rfl rfl) ?_)
  obtain ⟨y8, hy9, h⟩ := bind_no h
  refine TL.cons (TL.callV (Lin := []) (args := [.agg #[.int .i64 a0.f0, .string a0.f1, .int .i64 a0.f2, .slice A1 a0.f3.length c2]]) rfl rfl rfl hbd24 rfl rfl (swagelaw10_Few.calls (a0 := a0) hr3 hl4 hy9) rfl ?_)
  rintro _ _ _ _ ⟨rfl, rfl, rfl⟩
  refine TL.cons (TO.val rfl rfl rfl (Val.assign rfl) ?_)
  refine TL.nil ?_
  refine TQ.then_ ?_
  refine TC.seq ?_
  refine TC.seq ?_
  refine TC.region ?_
  refine TL.cons (TO.val rfl rfl rfl (Val.move rfl) ?_)
  refine TL.cons (TO.val rfl rfl rfl (Val.not_ rfl) ?_)
  refine TL.nil ?_
  refine TQ.then_ ?_
  refine TC.cond_b rfl h (fun hc11 h => ?_) (fun hc11 h => ?_)
  · refine TC.seq ?_
    refine TC.region ?_
    refine TL.cons (TO.val rfl rfl rfl (Val.move rfl) ?_)
    refine TL.cons (TO.val rfl rfl rfl (Val.assign rfl) ?_)
    refine TL.nil ?_
    refine TQ.then_ ?_
    refine TC.ret ?_
    refine TQ.thenR ?_
    obtain rfl := Option.some.inj h
    exact TQ.fin (.inl rfl) rfl Tryd.results4 (.tmp rfl .nil) rfl (FRel.mk (Ls := []) [] 1 (Gd.le.refl _) rfl rfl rfl ⟨rfl, rfl, rfl⟩)
  · refine TC.skip ?_
    refine TQ.then_ ?_
    refine TC.seq ?_
    refine TC.region ?_
    refine TL.cons (TO.val rfl rfl rfl (Val.loadsB 0 (cs := [.int .i64 a0.f0, .string a0.f1, .int .i64 a0.f2, .slice A1 a0.f3.length c2]) agg36 fsz36 rfl rfl rfl rfl) ?_)
    obtain ⟨y12, hy13, h⟩ := bind_no h
    refine TL.cons (TL.callV (Lin := []) (args := [.agg #[.int .i64 a0.f0, .string a0.f1, .int .i64 a0.f2, .slice A1 a0.f3.length c2]]) rfl rfl rfl hbd25 rfl rfl (types_Of.calls (a0 := a0) hr3 hl4 hy13) rfl ?_)
    rintro _ _ _ _ ⟨rfl, A14, c15, rfl, rfl⟩
    refine TL.cons (TO.val rfl rfl rfl (Val.move rfl) ?_)
    refine TL.cons (TO.val rfl rfl rfl (Val.extract rfl rfl) ?_)
    refine TL.cons (TO.val rfl rfl rfl (Val.extract rfl rfl) ?_)
    refine TL.cons (TL.alloc (cs := [.int .i64 0, .int .i64 0, .slice none 0 0]) rfl rfl zr24 rfl (fun b17 => ?_))
    refine TL.cons (TL.store 0 (ds := [.int .i64 y12.1.f0, .int .i64 y12.1.f1, .slice A14 y12.1.f2.length c15]) (cs' := [.int .i64 y12.1.f0, .int .i64 y12.1.f1, .slice A14 y12.1.f2.length c15]) (L' := (Blk b17 [.int .i64 y12.1.f0, .int .i64 y12.1.f1, .slice A14 y12.1.f2.length c15] 24 :: Row k24 24 (.slice A14 y12.1.f2.length c15) y12.1.f2 :: Blk b5 [.int .i64 a0.f0, .string a0.f1, .int .i64 a0.f2, .slice A1 a0.f3.length c2] 36 :: L)) rfl fsz24 rfl rfl rfl rfl rfl (Nat.le_of_ble_eq_true rfl) rfl rfl ?_)
    refine TL.cons (TO.val rfl rfl rfl (Val.assign rfl) ?_)
    refine TL.nil ?_
    refine TQ.then_ ?_
    refine TC.seq ?_
    refine TC.region ?_
    refine TL.cons (TO.val rfl rfl rfl (Val.loadsB 2 (cs := [.int .i64 a0.f0, .string a0.f1, .int .i64 a0.f2, .slice A1 a0.f3.length c2]) agg36 fsz36 rfl rfl rfl rfl) ?_)
    obtain ⟨y18, hy19, h⟩ := bind_no h
    refine TL.cons (TL.callV (Lin := []) (args := [.agg #[.int .i64 a0.f0, .string a0.f1, .int .i64 a0.f2, .slice A1 a0.f3.length c2]]) rfl rfl rfl hbd26 rfl rfl (swageref11_Of.calls (a0 := a0) hr3 hl4 hy19) rfl ?_)
    rintro _ _ _ _ ⟨rfl, A20, c21, rfl, rfl⟩
    refine TL.cons (TO.val rfl rfl rfl (Val.move rfl) ?_)
    refine TL.cons (TO.val rfl rfl rfl (Val.extract rfl rfl) ?_)
    refine TL.cons (TO.val rfl rfl rfl (Val.extract rfl rfl) ?_)
    refine TL.cons (TL.alloc (cs := [.int .i64 0, .int .i64 0, .slice none 0 0]) rfl rfl zr24 rfl (fun b23 => ?_))
    refine TL.cons (TL.store 0 (ds := [.int .i64 y18.1.f0, .int .i64 y18.1.f1, .slice A20 y18.1.f2.length c21]) (cs' := [.int .i64 y18.1.f0, .int .i64 y18.1.f1, .slice A20 y18.1.f2.length c21]) (L' := (Blk b23 [.int .i64 y18.1.f0, .int .i64 y18.1.f1, .slice A20 y18.1.f2.length c21] 24 :: Row k24 24 (.slice A20 y18.1.f2.length c21) y18.1.f2 :: Blk b17 [.int .i64 y12.1.f0, .int .i64 y12.1.f1, .slice A14 y12.1.f2.length c15] 24 :: Row k24 24 (.slice A14 y12.1.f2.length c15) y12.1.f2 :: Blk b5 [.int .i64 a0.f0, .string a0.f1, .int .i64 a0.f2, .slice A1 a0.f3.length c2] 36 :: L)) rfl fsz24 rfl rfl rfl rfl rfl (Nat.le_of_ble_eq_true rfl) rfl rfl ?_)
    refine TL.cons (TO.val rfl rfl rfl (Val.assign rfl) ?_)
    refine TL.nil ?_
    refine TQ.then_ ?_
    refine TC.seq ?_
    refine TC.region ?_
    refine TL.cons (TO.val rfl rfl rfl (Val.move rfl) ?_)
    refine TL.cons (TO.val rfl rfl rfl (Val.move rfl) ?_)
    refine TK.split (p := y6 = true) h (fun hg44 h => ?_) (fun hg44 h => ?_)
    · have hk45 : y6 = true := hg44
      refine TL.cons (TO.val (Wt.yes rfl rfl rfl hk45) rfl rfl (Val.loadsB 2 (cs := [.int .i64 y12.1.f0, .int .i64 y12.1.f1, .slice A14 y12.1.f2.length c15]) agg24 fsz24 rfl rfl rfl rfl) ?_)
      refine TL.cons (TO.val (Wt.yes rfl rfl rfl hk45) rfl rfl (Val.loadsB 0 (cs := [.int .i64 y18.1.f0, .int .i64 y18.1.f1, .slice A20 y18.1.f2.length c21]) agg24 fsz24 rfl rfl rfl rfl) ?_)
      refine TK.sel (Ls := [Row k24 24 (.slice A14 y12.1.f2.length c15) y12.1.f2, Blk b23 [.int .i64 y18.1.f0, .int .i64 y18.1.f1, .slice A20 y18.1.f2.length c21] 24, Row k24 24 (.slice A20 y18.1.f2.length c21) y18.1.f2, Blk b17 [.int .i64 y12.1.f0, .int .i64 y12.1.f1, .slice A14 y12.1.f2.length c15] 24, Blk b5 [.int .i64 a0.f0, .string a0.f1, .int .i64 a0.f2, .slice A1 a0.f3.length c2] 36]) [3, 0, 1, 2, 4] 5 rfl rfl rfl ?_
      refine TK.share (fun G46 e47 hs48 hb49 => ?_)
      have rd50 : Rd G46 k24 A14 y12.1.f2 := Rd.row hs48
      have le51 : y12.1.f2.length ≤ c15 := Row.le hs48
      refine TK.sel (Ls := [Row k24 24 (.slice A20 y18.1.f2.length c21) y18.1.f2, Blk b23 [.int .i64 y18.1.f0, .int .i64 y18.1.f1, .slice A20 y18.1.f2.length c21] 24, Blk b17 [.int .i64 y12.1.f0, .int .i64 y12.1.f1, .slice A14 y12.1.f2.length c15] 24, Blk b5 [.int .i64 a0.f0, .string a0.f1, .int .i64 a0.f2, .slice A1 a0.f3.length c2] 36]) [1, 0, 2, 3] 4 rfl rfl rfl ?_
      refine TK.share (fun G52 e53 hs54 hb55 => ?_)
      have rd56 : Rd G52 k24 A20 y18.1.f2 := Rd.row hs54
      have le57 : y18.1.f2.length ≤ c21 := Row.le hs54
      obtain ⟨y58, hy59, h⟩ := bind_no h
      refine TL.cons (TL.callV (Lin := []) (args := [.agg #[.int .i64 y12.1.f0, .int .i64 y12.1.f1, .slice A14 y12.1.f2.length c15], .agg #[.int .i64 y18.1.f0, .int .i64 y18.1.f1, .slice A20 y18.1.f2.length c21]]) (Wt.yes rfl rfl rfl hk45) rfl rfl hbd12 rfl rfl (swageref11_Same.calls (a0 := y12.1) (a1 := y18.1) (rd50.up e53) le51 rd56 le57 hy59) rfl ?_)
      rintro _ _ _ _ ⟨rfl, rfl, rfl⟩
      refine TL.cons (TO.val rfl rfl rfl (Val.pickY rfl hk45 rfl) ?_)
      refine TL.cons (TO.val rfl rfl rfl (Val.move rfl) ?_)
      refine TK.split (p := y58 = true) h (fun hg60 h => ?_) (fun hg60 h => ?_)
      · have hk61 : y58 = true := hg60
        refine TL.cons (TO.val (Wt.yes rfl rfl rfl hk61) rfl rfl (Val.move rfl) ?_)
        refine TL.cons (TO.val (Wt.yes rfl rfl rfl hk61) rfl rfl (Val.move rfl) ?_)
        refine TL.cons (TO.val (Wt.yes rfl rfl rfl hk61) rfl rfl (Val.cmp rfl rfl run_eql) ?_)
        refine TL.cons (TO.val rfl rfl rfl (Val.pickY rfl hk61 rfl) ?_)
        refine TL.cons (TO.val rfl rfl rfl (Val.assign rfl) ?_)
        refine TL.nil ?_
        refine TQ.then_ ?_
        refine TC.ret ?_
        refine TQ.back hb55 ?_
        refine TQ.back hb49 ?_
        obtain rfl := Option.some.inj h
        exact TQ.fin (.inl rfl) rfl Tryd.results4 (.tmp rfl .nil) rfl (FRel.mk (Ls := []) [] 5 (Gd.le.refl _) rfl rfl rfl ⟨rfl, rfl, rfl⟩)
      · have hk62 : y58 = false := (by simpa using hg60)
        refine TL.cons (TL.not (Wt.no rfl rfl rfl hk62) rfl ?_)
        refine TL.cons (TL.not (Wt.no rfl rfl rfl hk62) rfl ?_)
        refine TL.cons (TL.not (Wt.no rfl rfl rfl hk62) rfl ?_)
        refine TL.cons (TO.val rfl rfl rfl (Val.pickN rfl hk62 rfl) ?_)
        refine TL.cons (TO.val rfl rfl rfl (Val.assign rfl) ?_)
        refine TL.nil ?_
        refine TQ.then_ ?_
        refine TC.ret ?_
        refine TQ.back hb55 ?_
        refine TQ.back hb49 ?_
        obtain rfl := Option.some.inj h
        exact TQ.fin (.inl rfl) rfl Tryd.results4 (.tmp rfl .nil) rfl (FRel.mk (Ls := []) [] 5 (Gd.le.refl _) rfl rfl rfl ⟨rfl, rfl, rfl⟩)
    · have hk63 : y6 = false := (by simpa using hg44)
      refine TL.cons (TL.not (Wt.no rfl rfl rfl hk63) rfl ?_)
      refine TL.cons (TL.not (Wt.no rfl rfl rfl hk63) rfl ?_)
      refine TL.cons (TL.not (Wt.no rfl rfl rfl hk63) rfl ?_)
      refine TL.cons (TO.val rfl rfl rfl (Val.pickN rfl hk63 rfl) ?_)
      refine TL.cons (TO.val rfl rfl rfl (Val.move rfl) ?_)
      refine TL.cons (TL.not (Wt.no rfl rfl rfl rfl) rfl ?_)
      refine TL.cons (TL.not (Wt.no rfl rfl rfl rfl) rfl ?_)
      refine TL.cons (TL.not (Wt.no rfl rfl rfl rfl) rfl ?_)
      refine TL.cons (TO.val rfl rfl rfl (Val.pickN rfl rfl rfl) ?_)
      refine TL.cons (TO.val rfl rfl rfl (Val.assign rfl) ?_)
      refine TL.nil ?_
      refine TQ.then_ ?_
      refine TC.ret ?_
      obtain rfl := Option.some.inj h
      exact TQ.fin (.inl rfl) rfl Tryd.results4 (.tmp rfl .nil) rfl (FRel.mk (Ls := []) [] 5 (Gd.le.refl _) rfl rfl rfl ⟨rfl, rfl, rfl⟩)
end Go.Proofs.YtdklnjmdaecboaaDoor.Sy
set_option linter.unusedVariables false
set_option linter.unusedSimpArgs false
namespace Go.Proofs.YtdklnjmdaecboaaDoor.Sy
open Go Go.RowKit Go.Proofs.YtdklnjmdaecboaaDoorW.PrintWords Go.Proofs.YtdklnjmdaecboaaDoor.SyO
mutual
def ncnt : S36 → Nat
  | ⟨_, _, _, l⟩ => ncntL l + 1
def ncntL : List S36 → Nat
  | [] => 0
  | x :: r => ncnt x + ncntL r
end
mutual
def ndep : S36 → Nat
  | ⟨_, _, _, l⟩ => ndepL l + 1
def ndepL : List S36 → Nat
  | [] => 0
  | x :: r => max (ndep x) (ndepL r)
end
theorem ncnt_eq (t : S36) : ncnt t = ncntL t.f3 + 1 := by cases t; simp [ncnt]
theorem ndep_eq (t : S36) : ndep t = ndepL t.f3 + 1 := by cases t; simp [ndep]
theorem ncntL_len : ∀ l : List S36, l.length ≤ ncntL l
  | [] => by simp [ncntL]
  | x :: r => by have := ncntL_len r; have := ncnt_eq x; simp [ncntL]; omega
theorem ncntL_mem {l : List S36} {y : S36} (h : y ∈ l) : ncnt y ≤ ncntL l := by
  induction l with
  | nil => cases h
  | cons x r ih =>
    rcases List.mem_cons.1 h with rfl | h
    · simp [ncntL]
    · have := ih h; simp [ncntL]; omega
theorem ndepL_mem {l : List S36} {y : S36} (h : y ∈ l) : ndep y ≤ ndepL l := by
  induction l with
  | nil => cases h
  | cons x r ih =>
    rcases List.mem_cons.1 h with rfl | h
    · simp [ndepL]; omega
    · have := ih h; simp [ndepL]; omega
/-! #### Counting -/
theorem ncount_l0 {rec : S36 → Int → Int → Option Int} {t : S36} {d : Nat} (hd : d ≤ 1000)
    (hr : ∀ y ∈ t.f3, 1 ≤ d → ∃ c : Nat, rec y 400 ((d : Int) - 1) = some (c : Int) ∧ 1 ≤ c ∧ c ≤ 401 * d ∧ (c ≤ 400 → ncnt y = c ∧ ndep y ≤ d)) :
    ∀ (ys : List S36) (n i k : Nat), t.f3.drop i = ys → ys.length < n → i < k → k ≤ 401 * (d + 1) →
      ∃ r, swagelaw10_count.l0 rec t 400 d n k i = some r ∧ (r = .inl 401 ∨ ∃ c : Nat, r = .inr (c : Int) ∧ 1 ≤ c ∧ c ≤ 401 * (d + 1) ∧ (c ≤ 400 → c = k + ncntL ys ∧ ndepL ys ≤ d)) := by
  intro ys
  induction ys with
  | nil =>
    intro n i k hdr hn hik hk
    obtain ⟨n, rfl⟩ : ∃ m, n = m + 1 := ⟨n - 1, by simp at hn; omega⟩
    rw [swagelaw10_count.l0]
    simp only [jn]
    rw [if_neg (drop_nil hdr)]
    simp only [Bool.false_eq_true, if_false]
    exact ⟨_, rfl, .inr ⟨k, rfl, by omega, hk, fun h => by simp [ncntL, ndepL]⟩⟩
  | cons y ys ih =>
    intro n i k hdr hn hik hk
    obtain ⟨n, rfl⟩ : ∃ m, n = m + 1 := ⟨n - 1, by simp at hn; omega⟩
    obtain ⟨h1, h2, h3, h4⟩ := drop_cons hdr
    rw [swagelaw10_count.l0]
    simp only [jn]
    rw [if_pos h1]
    by_cases hk3 : k ≤ 400
    · have e : decide ((k : Int) ≤ 400) = true := by simp; omega
      rw [e, if_pos rfl]
      by_cases hd1 : d < 1
      · rw [if_pos (by omega)]
        exact ⟨_, rfl, .inl (by rw [w64 (by omega) (by omega)]; rfl)⟩
      · rw [if_neg (by omega), h2]
        simp only [Option.bind_some]
        rw [w64 (n := (d : Int) - 1) (by omega) (by omega)]
        obtain ⟨c, hc, c1, c2, c3⟩ := hr y h4 (by omega)
        rw [hc]
        simp only [Option.bind_some]
        rw [w64 (n := (k : Int) + c) (by omega) (by omega), wsucc (by omega)]
        obtain ⟨r, hr1, hr2⟩ := ih n (i + 1) (k + c) h3 (by simp at hn; omega) (by omega) (by omega)
        refine ⟨r, by rw [← hr1]; simp, ?_⟩
        rcases hr2 with h | ⟨q, q1, q2, q3, q4⟩
        · exact .inl h
        · refine .inr ⟨q, q1, q2, q3, fun hq => ?_⟩
          obtain ⟨a1, a2⟩ := q4 hq
          obtain ⟨b1, b2⟩ := c3 (by omega)
          simp only [ncntL, ndepL]; omega
    · have e : decide ((k : Int) ≤ 400) = false := by simp; omega
      rw [e]
      simp only [Bool.false_eq_true, if_false]
      exact ⟨_, rfl, .inr ⟨k, rfl, by omega, hk, fun h => absurd h (by omega)⟩⟩
theorem ncount_fix : ∀ (m : Nat) (t : S36) (d : Nat), d < m → d ≤ 1000 → ∃ c : Nat, swagelaw10_count.fix m t 400 d = some (c : Int) ∧ 1 ≤ c ∧ c ≤ 401 * (d + 1) ∧ (c ≤ 400 → ncnt t = c ∧ ndep t ≤ d + 1)
  | 0, _, _, h, _ => by omega
  | m + 1, t, d, h, hd => by
    have hr : ∀ y ∈ t.f3, 1 ≤ d → ∃ c : Nat, swagelaw10_count.fix m y 400 ((d : Int) - 1) = some (c : Int) ∧ 1 ≤ c ∧ c ≤ 401 * d ∧ (c ≤ 400 → ncnt y = c ∧ ndep y ≤ d) := by
      intro y _ hd1
      obtain ⟨e, rfl⟩ : ∃ e, d = e + 1 := ⟨d - 1, by omega⟩
      obtain ⟨c, c1, c2, c3, c4⟩ := ncount_fix m y e (by omega) (by omega)
      refine ⟨c, ?_, c2, c3, c4⟩
      rw [← c1]
      congr 1; omega
    obtain ⟨r, h1, h2⟩ := ncount_l0 hd hr t.f3 (t.f3.length + 1) 0 1 (by simp) (by omega) (by omega) (by omega)
    show ∃ c : Nat, swagelaw10_count.g (swagelaw10_count.fix m) t 400 d = _ ∧ _
    unfold swagelaw10_count.g
    have h1' : swagelaw10_count.l0 (swagelaw10_count.fix m) t 400 d (t.f3.length + 1) 1 0 = some r := h1
    rw [h1']
    simp only [Option.bind_some]
    rcases h2 with rfl | ⟨c, rfl, c1, c2, c3⟩
    · exact ⟨401, rfl, by omega, by omega, fun h => by omega⟩
    · refine ⟨c, rfl, c1, c2, fun hc => ?_⟩
      obtain ⟨a1, a2⟩ := c3 hc
      have := ncnt_eq t; have := ndep_eq t
      omega
theorem nfew_f (t : S36) : ∃ b, swagelaw10_Few.f t = some b ∧ (b = true → ncnt t ≤ 400 ∧ ndep t ≤ 61) := by
  obtain ⟨c, c1, c2, c3, c4⟩ := ncount_fix 1000 t 60 (by omega) (by omega)
  unfold swagelaw10_Few.f swagelaw10_count.f
  have c1' : swagelaw10_count.fix 1000 t 400 60 = some (c : Int) := c1
  rw [c1']
  refine ⟨decide ((c : Int) ≤ 400), rfl, fun h => ?_⟩
  have h : (c : Int) ≤ 400 := by simpa using h
  obtain ⟨a1, a2⟩ := c4 (by omega)
  omega
/-! #### Numbers -/
theorem byte_get {s : ByteArray} {i : Int} (h0 : 0 ≤ i) (h1 : i < (s.size : Int)) : ∃ b : Nat, b < 256 ∧ byte? s i = some (b : Int) := by
  unfold byte?
  rw [if_pos h0]
  have hl : i.toNat < s.data.toList.length := by
    have : s.data.toList.length = s.size := by rw [Array.length_toList]; rfl
    omega
  rw [List.getElem?_eq_getElem hl]
  exact ⟨_, (s.data.toList[i.toNat]).toNat_lt, rfl⟩
theorem num_l0 {s : ByteArray} (hs : s.size ≤ 9223372036854775807) : ∀ (n : Nat) (x i : Int), 0 ≤ x → x ≤ 9223372036854775807 → 0 ≤ i → i ≤ (s.size : Int) → (s.size : Int) < i + n →
    ∃ r, token_Number.l0 s n x i = some r ∧ swageref09_Number.l0 s n x i = some r ∧ (r = .inl (0, false) ∨ ∃ y : Int, r = .inr y ∧ 0 ≤ y ∧ y ≤ 9223372036854775807)
  | 0, x, i, h0, h1, h2, h4, h3 => by exfalso; omega
  | n + 1, x, i, h0, h1, h2, h4, h3 => by
    rw [token_Number.l0, swageref09_Number.l0]
    by_cases hi : i < (s.size : Int)
    · rw [if_pos hi, if_pos hi]
      obtain ⟨b, hb, hbe⟩ := byte_get h2 hi
      simp only [hbe, Option.bind_some, jn]
      unfold token_digit.f swageref09_digit.f
      have wb : IntKind.i64.wrap (b : Int) = (b : Int) := w64 (by omega) (by omega)
      have wb2 : IntKind.i64.wrap ((b : Int) - 48) = (b : Int) - 48 := w64 (by omega) (by omega)
      rw [wb, wb2]
      by_cases d1 : (48 : Int) ≤ b
      · by_cases d2 : (b : Int) ≤ 57
        · have wm : IntKind.i64.wrap (9223372036854775807 - ((b : Int) - 48)) = 9223372036854775807 - ((b : Int) - 48) := w64 (by omega) (by omega)
          have e1 : (9223372036854775807 - ((b : Int) - 48)).tdiv 10 = (9223372036854775807 - ((b : Int) - 48)) / 10 := Int.tdiv_eq_ediv_of_nonneg (by omega)
          have wq : IntKind.i64.wrap ((9223372036854775807 - ((b : Int) - 48)) / 10) = (9223372036854775807 - ((b : Int) - 48)) / 10 := w64 (by omega) (by omega)
          rw [wm, e1, wq]
          have hten : ¬ (10 : Int) = 0 := by omega
          by_cases q : (9223372036854775807 - ((b : Int) - 48)) / 10 < x
          · refine ⟨.inl (0, false), ?_, ?_, .inl rfl⟩
            · simp [d1, d2, q]
            · by_cases q1 : (922337203685477580 : Int) < x
              · simp [d1, d2, q1]
              · have q2 : x = 922337203685477580 := by omega
                have q3 : (7 : Int) < (b : Int) - 48 := by omega
                simp [d1, d2, q2, q3]
          · have q1 : ¬ (922337203685477580 : Int) < x := by omega
            have q2 : ¬ (x = 922337203685477580 ∧ (7 : Int) < (b : Int) - 48) := by omega
            have w1 : IntKind.i64.wrap (10 * x) = 10 * x := w64 (by omega) (by omega)
            have w2 : IntKind.i64.wrap (10 * x + ((b : Int) - 48)) = 10 * x + ((b : Int) - 48) := w64 (by omega) (by omega)
            have w3 : IntKind.i64.wrap (i + 1) = i + 1 := w64 (by omega) (by omega)
            obtain ⟨r, r1, r2, r3⟩ := num_l0 hs n (10 * x + ((b : Int) - 48)) (i + 1) (by omega) (by omega) (by omega) (by omega) (by omega)
            refine ⟨r, ?_, ?_, r3⟩
            · simp [d1, d2, q, w1, w2, w3, r1]
            · by_cases q4 : x = 922337203685477580
              · have q3 : ¬ (7 : Int) < (b : Int) - 48 := fun h => q2 ⟨q4, h⟩
                rw [w1, w2, w3]
                simp [d1, d2, q1, r2, q3]
              · simp [d1, d2, q1, q4, w1, w2, w3, r2]
        · exact ⟨.inl (0, false), by simp [d1, d2], by simp [d1, d2], .inl rfl⟩
      · exact ⟨.inl (0, false), by simp [d1], by simp [d1], .inl rfl⟩
    · rw [if_neg hi, if_neg hi]
      exact ⟨.inr x, rfl, rfl, .inr ⟨x, rfl, h0, h1⟩⟩
/-- A number's text: what both tell. -/
theorem num_f {s : ByteArray} (hs : s.size ≤ 9223372036854775807) : ∃ r : Int × Bool, token_Number.f s = some r ∧ swageref09_Number.f s = some r := by
  have hl : s.data.toList.length = s.size := by rw [Array.length_toList]; rfl
  obtain ⟨r, r1, r2, r3⟩ := num_l0 hs (s.size + 1) 0 0 (by omega) (by omega) (by omega) (by omega) (by omega)
  unfold token_Number.f swageref09_Number.f
  rw [r1, r2]
  simp only [jn, Option.bind_some]
  by_cases h0 : s.size = 0
  · have he : (s.data.toList == (⟨#[]⟩ : ByteArray).data.toList) = true := by
      rw [List.length_eq_zero_iff.1 (by omega : s.data.toList.length = 0)]; rfl
    rw [if_pos he]
    refine ⟨(0, false), by simp, ?_⟩
    rcases r3 with rfl | ⟨y, rfl, _⟩
    · rfl
    · simp [h0]
  · have he : ¬ (s.data.toList == (⟨#[]⟩ : ByteArray).data.toList) = true := by
      intro h
      have h2 : s.data.toList = [] := by simpa using h
      rw [h2] at hl; simp at hl; omega
    have h0' : ¬ ((s.size : Int) = 0) := by omega
    have hne : ¬ s = ByteArray.empty := fun h => h0 (by rw [h]; rfl)
    rw [if_neg he]
    by_cases h1 : (1 : Int) < (s.size : Int)
    · obtain ⟨b, hb, hbe⟩ := byte_get (s := s) (i := 0) (by omega) (by omega)
      rw [if_pos h1, hbe]
      simp only [Option.bind_some]
      by_cases h48 : (b : Int) = 48
      · refine ⟨(0, false), by simp [h48], ?_⟩
        rcases r3 with rfl | ⟨y, rfl, _⟩
        · rfl
        · simp [h0', h1, h48]
      · rcases r3 with rfl | ⟨y, rfl, _⟩
        · exact ⟨(0, false), by simp [h48], rfl⟩
        · exact ⟨(y, true), by simp [h48], by simp [h0', h1, h48, hne]⟩
    · rw [if_neg h1]
      rcases r3 with rfl | ⟨y, rfl, _⟩
      · exact ⟨(0, false), by simp, rfl⟩
      · exact ⟨(y, true), by simp, by simp [h0', h1, hne]⟩
/-! #### The type of a node -/
theorem ok36_kids {t : S36} (h : ok36 t) : t.f1.size ≤ 9223372036854775807 ∧ ∀ y ∈ t.f3, ok36 y := by
  obtain ⟨n, h⟩ := h
  cases n with
  | zero => exact h.elim
  | succ n =>
    have hm : maxLen = 9223372036854775807 := by decide
    exact ⟨by have := h.2.1; omega, fun y hy => ⟨n, h.2.2.2.2 y hy⟩⟩
theorem cntL_append : ∀ (l k : List S24), cntL (l ++ k) = cntL l + cntL k
  | [], k => by simp [cntL]
  | x :: l, k => by simp only [List.cons_append, cntL, cntL_append l k]; omega
theorem depL_append : ∀ (l k : List S24), depL (l ++ k) = max (depL l) (depL k)
  | [], k => by simp [depL]
  | x :: l, k => by simp only [List.cons_append, depL, depL_append l k]; omega
theorem kindOf_f (t : S36) : types_kindOf.f t = some (if t.f0 = 5 ∧ t.f3.length = 0 then 1 else if t.f0 = 6 ∧ t.f3.length = 1 then 2 else if t.f0 = 7 ∧ t.f3.length = 1 then 3 else if t.f0 = 8 ∧ 0 < t.f3.length then 4 else 0) := by
  unfold types_kindOf.f
  simp only [jn]
  by_cases a5 : t.f0 = 5
  · by_cases b : t.f3.length = 0 <;> simp [a5, b]
  by_cases a6 : t.f0 = 6
  · by_cases b : t.f3.length = 1 <;> simp [a6, b] <;> omega
  by_cases a7 : t.f0 = 7
  · by_cases b : t.f3.length = 1 <;> simp [a7, b] <;> omega
  by_cases a8 : t.f0 = 8
  · by_cases b : 0 < t.f3.length
    · have b' : (0 : Int) < (t.f3.length : Int) := by omega
      simp [a8, b, b']
    · have b' : ¬ (0 : Int) < (t.f3.length : Int) := by omega
      simp [a8, b, b']
  · simp [a5, a6, a7, a8]
/-- Both told alike. -/
def Both (N D : Nat) (a b : Option (S24 × Bool)) : Prop := ∃ x y, a = some x ∧ b = some y ∧ x.2 = y.2 ∧ (x.2 = true → x.1 = y.1 ∧ cnt x.1 ≤ N ∧ dep x.1 ≤ D)
theorem of_l0 {rec rec' : S36 → Option (S24 × Bool)} {t : S36} {a b a' b' : Int} (hl : t.f3.length ≤ 400) (hr : ∀ y ∈ t.f3, Both (ncnt y) (ndep y) (rec y) (rec' y)) :
    ∀ (ys : List S36) (n i : Nat) (l : List S24), t.f3.drop i = ys → ys.length < n → i ≤ t.f3.length → l.length = i →
      ∃ r r', types_of.l0 rec t a b n i l = some r ∧ swageref11_of.l0 rec' t a' b' n i l = some r' ∧
        ((∃ x y, r = .inl (x, false) ∧ r' = .inl (y, false)) ∨ (∃ q, r = .inr q ∧ r' = .inr q ∧ cntL q ≤ cntL l + ncntL ys ∧ depL q ≤ max (depL l) (ndepL ys))) := by
  intro ys
  induction ys with
  | nil =>
    intro n i l hdr hn hi hle
    obtain ⟨n, rfl⟩ : ∃ m, n = m + 1 := ⟨n - 1, by simp at hn; omega⟩
    rw [types_of.l0, swageref11_of.l0, if_neg (drop_nil hdr), if_neg (drop_nil hdr)]
    exact ⟨_, _, rfl, rfl, .inr ⟨l, rfl, rfl, by simp [ncntL], by simp [ndepL]⟩⟩
  | cons y ys ih =>
    intro n i l hdr hn hi hle
    obtain ⟨n, rfl⟩ : ∃ m, n = m + 1 := ⟨n - 1, by simp at hn; omega⟩
    obtain ⟨h1, h2, h3, h4⟩ := drop_cons hdr
    rw [types_of.l0, swageref11_of.l0, if_pos h1, if_pos h1, h2]
    simp only [Option.bind_some]
    obtain ⟨⟨x, xb⟩, ⟨z, zb⟩, e1, e2, e3, e4⟩ := hr y h4
    rw [e1, e2]
    simp only [Option.bind_some]
    have e3 : xb = zb := e3
    subst e3
    cases xb with
    | false => exact ⟨_, _, rfl, rfl, .inl ⟨_, _, rfl, rfl⟩⟩
    | true =>
      obtain ⟨e5, e6, e7⟩ := e4 rfl
      have e5 : x = z := e5
      subst e5
      simp only [Bool.not_true, Bool.false_eq_true, if_false]
      rw [if_pos (by omega), if_pos (by omega), wsucc (by omega)]
      obtain ⟨r, r', r1, r2, r3⟩ := ih n (i + 1) (l ++ [x]) h3 (by simp at hn; omega) (by omega) (by simp; omega)
      refine ⟨r, r', r1, r2, ?_⟩
      rcases r3 with h | ⟨q, q1, q2, q3, q4⟩
      · exact .inl h
      · refine .inr ⟨q, q1, q2, ?_, ?_⟩
        · rw [cntL_append] at q3; simp only [cntL, ncntL] at q3 ⊢
          have e6 : cnt x ≤ ncnt y := e6
          omega
        · rw [depL_append] at q4; simp only [depL, ndepL] at q4 ⊢
          have e7 : dep x ≤ ndep y := e7
          omega
theorem of_fix : ∀ (m : Nat) (t : S36), ndep t ≤ m → ncnt t ≤ 400 → ok36 t → Both (ncnt t) (ndep t) (types_of.fix m t) (swageref11_of.fix m t)
  | 0, t, h, _, _ => by have := ndep_eq t; omega
  | m + 1, t, h, hc, ho => by
    have hd := ndep_eq t
    have hce := ncnt_eq t
    have hll := ncntL_len t.f3
    obtain ⟨hsz, hok⟩ := ok36_kids ho
    have hr : ∀ y ∈ t.f3, Both (ncnt y) (ndep y) (types_of.fix m y) (swageref11_of.fix m y) := fun y hy => of_fix m y (by have := ndepL_mem hy; omega) (by have := ncntL_mem hy; omega) (hok y hy)
    have hloop : ∀ a b, ∃ r r', types_of.l0 (types_of.fix m) t a b (t.f3.length + 1) 0 [] = some r ∧ swageref11_of.l0 (swageref11_of.fix m) t a b (t.f3.length + 1) 0 [] = some r' ∧
        ((∃ x y, r = .inl (x, false) ∧ r' = .inl (y, false)) ∨ (∃ q, r = .inr q ∧ r' = .inr q ∧ cntL q ≤ ncntL t.f3 ∧ depL q ≤ ndepL t.f3)) := by
      intro a b
      obtain ⟨r, r', r1, r2, r3⟩ := of_l0 (a := a) (b := b) (a' := a) (b' := b) (by omega) hr t.f3 (t.f3.length + 1) 0 [] (by simp) (by omega) (by omega) rfl
      refine ⟨r, r', r1, r2, ?_⟩
      rcases r3 with h | ⟨q, q1, q2, q3, q4⟩
      · exact .inl h
      · exact .inr ⟨q, q1, q2, by simpa [cntL] using q3, by simpa [depL] using q4⟩
    show Both _ _ (types_of.g (types_of.fix m) t) (swageref11_of.g (swageref11_of.fix m) t)
    unfold types_of.g swageref11_of.g
    rw [kindOf_f]
    simp only [jn, Option.bind_some]
    have hfin : ∀ (a b : Int), Both (ncnt t) (ndep t)
        ((types_of.l0 (types_of.fix m) t a b (t.f3.length + 1) 0 []).bind fun | .inl q_ => some q_ | .inr l194 => (some ((⟨a, b, l194⟩ : S24), true)))
        ((swageref11_of.l0 (swageref11_of.fix m) t a b (t.f3.length + 1) 0 []).bind fun | .inl q_ => some q_ | .inr l194 => (some ((⟨a, b, l194⟩ : S24), true))) := by
      intro a b
      obtain ⟨r, r', r1, r2, r3⟩ := hloop a b
      rw [r1, r2]
      rcases r3 with ⟨x, y, rfl, rfl⟩ | ⟨q, rfl, rfl, q3, q4⟩
      · exact ⟨_, _, rfl, rfl, rfl, fun h => by cases h⟩
      · exact ⟨_, _, rfl, rfl, rfl, fun h => ⟨rfl, by rw [cnt_eq]; simp only; omega, by rw [dep_eq]; simp only; omega⟩⟩
    by_cases a5 : t.f0 = 5
    · by_cases b : t.f3.length = 0
      · have hz : t.f3 = [] := List.length_eq_zero_iff.1 b
        refine ⟨(⟨1, 0, []⟩, true), (⟨1, 0, []⟩, true), ?_, ?_, rfl, fun _ => ⟨rfl, ?_, ?_⟩⟩
        · simp [a5, b, hz, types_of.l0]
        · simp [a5, b]
        · simp [cnt, cntL, hce]
        · simp [dep, depL, hd]
      · exact ⟨(⟨0, 0, []⟩, false), (⟨1, 0, []⟩, false), by simp [a5, b], by simp [a5, b], rfl, fun h => by cases h⟩
    by_cases a6 : t.f0 = 6
    · by_cases b : t.f3.length = 1
      · have := hfin 2 0
        simp [a6, b] at this ⊢
        exact this
      · by_cases b2 : t.f3.length < 1
        · have b2' : (t.f3.length : Int) < 1 := by omega
          exact ⟨(⟨0, 0, []⟩, false), (⟨2, 0, []⟩, false), by simp [a6, b], by simp [a6, b2'], rfl, fun h => by cases h⟩
        · have b2' : ¬ (t.f3.length : Int) < 1 := by omega
          have b3 : (1 : Int) < (t.f3.length : Int) := by omega
          exact ⟨(⟨0, 0, []⟩, false), (⟨2, 0, []⟩, false), by simp [a6, b], by simp [a6, b2', b3], rfl, fun h => by cases h⟩
    by_cases a7 : t.f0 = 7
    · obtain ⟨⟨c, cb⟩, n1, n2⟩ := num_f hsz
      rw [n1, n2]
      by_cases b : t.f3.length = 1
      · cases cb with
        | false => exact ⟨(⟨3, c, []⟩, false), (⟨3, 0, []⟩, false), by simp [a7, b], by simp [a7], rfl, fun h => by cases h⟩
        | true =>
          have := hfin 3 c
          simp [a7, b] at this ⊢
          exact this
      · cases cb with
        | false => exact ⟨(⟨0, 0, []⟩, false), (⟨3, 0, []⟩, false), by simp [a7, b], by simp [a7], rfl, fun h => by cases h⟩
        | true =>
          by_cases b2 : t.f3.length < 1
          · have b2' : (t.f3.length : Int) < 1 := by omega
            exact ⟨(⟨0, 0, []⟩, false), (⟨3, c, []⟩, false), by simp [a7, b], by simp [a7, b2'], rfl, fun h => by cases h⟩
          · have b2' : ¬ (t.f3.length : Int) < 1 := by omega
            have b3 : (1 : Int) < (t.f3.length : Int) := by omega
            exact ⟨(⟨0, 0, []⟩, false), (⟨3, c, []⟩, false), by simp [a7, b], by simp [a7, b2', b3], rfl, fun h => by cases h⟩
    by_cases a8 : t.f0 = 8
    · by_cases b : 0 < t.f3.length
      · have b2' : ¬ (t.f3.length : Int) < 1 := by omega
        have := hfin 4 0
        by_cases b3 : (1 : Int) < (t.f3.length : Int)
        · simp [a8, b, b2', b3] at this ⊢
          exact this
        · simp [a8, b, b2', b3] at this ⊢
          exact this
      · have b2' : (t.f3.length : Int) < 1 := by omega
        exact ⟨(⟨0, 0, []⟩, false), (⟨4, 0, []⟩, false), by simp [a8, b], by simp [a8, b2'], rfl, fun h => by cases h⟩
    · exact ⟨(⟨0, 0, []⟩, false), (⟨0, 0, []⟩, false), by simp [a5, a6, a7, a8], by simp [a5, a6, a7, a8], rfl, fun h => by cases h⟩
/-- THE LAW. -/
theorem typesOf_law (n : S36) (h : ok36 n) : swagelaw11_TypesOf.f n = some true := by
  unfold swagelaw11_TypesOf.f
  obtain ⟨b, e1, f1⟩ := nfew_f n
  rw [small_true, e1]
  simp only [Option.bind_some]
  cases b with
  | false => simp
  | true =>
    obtain ⟨hc, hd⟩ := f1 rfl
    obtain ⟨⟨x, xb⟩, ⟨y, yb⟩, q1, q2, q3, q4⟩ := of_fix 1000 n (by omega) hc h
    have hz : swageref11_Same.f (⟨0, 0, []⟩ : S24) ⟨0, 0, []⟩ = some true := by
      have := rsame_fix 1000 (⟨0, 0, []⟩ : S24) ⟨0, 0, []⟩ (by simp [dep, depL]) (by simp [cnt, cntL])
      rw [same_refl] at this
      exact this
    unfold types_Of.f swageref11_Of.f types_of.f swageref11_of.f
    rw [q1, q2]
    have q3 : xb = yb := q3
    subst q3
    simp only [Option.bind_some]
    cases xb with
    | false => simp [hz]
    | true =>
      obtain ⟨rfl, hx, hdx⟩ := q4 rfl
      have hx' : cnt x ≤ 400 := Nat.le_trans hx hc
      have hd' : dep x ≤ 1000 := Nat.le_trans hdx (by omega)
      have hs : swageref11_Same.f x x = some true := by
        have := rsame_fix 1000 x x hd' hx'
        rw [same_refl] at this
        exact this
      simp only [Bool.not_true, Bool.false_eq_true, if_false]
      rw [right_f hd' hx', rright_f hd' hx']
      cases rgt x <;> simp [hs, hz]
end Go.Proofs.YtdklnjmdaecboaaDoor.Sy
