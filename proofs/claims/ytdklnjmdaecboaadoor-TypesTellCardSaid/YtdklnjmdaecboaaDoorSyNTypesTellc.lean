/- Texts of this work, joined: SyF7, SyF3. -/
import Derived.Test.YtdklnjmdaecboaaDoorSyNTypesTellb
set_option linter.unusedVariables false
set_option linter.unusedSimpArgs false
set_option maxRecDepth 100000
set_option maxHeartbeats 4000000
namespace Go.Proofs.YtdklnjmdaecboaaDoor.Sy
open Go Go.RowKit Go.Proofs.YtdklnjmdaecboaaDoorW.PrintWords 
def swagelaw11_small.f : Option Bool := (swagelaw11_some.f).bind fun (y1 : S24) => (types_Offset.f y1 2).bind fun (y12 : (Int × Bool)) => (types_Of.f (⟨6, (⟨#[]⟩ : ByteArray), 0, ([(⟨5, (⟨#[]⟩ : ByteArray), 0, ([] : List S36)⟩ : S36)] : List S36)⟩ : S36)).bind fun (y23 : (S24 × Int)) => (types_Of.f (⟨18, (⟨#[]⟩ : ByteArray), 0, ([] : List S36)⟩ : S36)).bind fun (y29 : (S24 × Int)) => (swagelaw11_some.f).bind fun (y341 : S24) => (types_Right.f y341).bind fun (y352 : Bool) => (if y352 = true then (swagelaw11_some.f).bind fun (y356 : S24) => (types_Size.f y356).bind fun (y367 : Int) => (if y367 = 5 then (if y12.1 = 4 then (if y12.2 = true then (swagelaw11_some.f).bind fun (y375 : S24) => (types_Text.f y375).bind fun (y386 : ByteArray) => (if (y386.data.toList == (⟨#[40, 105, 110, 116, 44, 91, 51, 93, 42, 105, 110, 116, 44, 105, 110, 116, 41]⟩ : ByteArray).data.toList) = true then (if y23.2 = 0 then (types_Pointer.f (⟨1, 0, ([] : List S24)⟩ : S24)).bind fun (y392 : S24) => (types_Same.f y23.1 y392).bind fun (y403 : Bool) => (if y403 = true then (if y29.2 = 1 then (types_Scalar.f y23.1).bind fun (y409 : Bool) => (if y409 = true then (swagelaw11_some.f).bind fun (y413 : S24) => (types_Scalar.f y413).bind fun (y424 : Bool) => some (!y424) else some false) else some false) else some false) else some false) else some false) else some false) else some false) else some false) else some false)
def swagelaw11_small.post (G : Gd) (r : Bool) (v : Value) (G' : Gd) (Lr : List Ch) : Prop := G = G' ∧ v = .bool r ∧ Lr = []
theorem swagelaw11_small.calls {G : Gd} {r : Bool} (ht : Tab G) (h : swagelaw11_small.f = some r) : Fn Tryd.prog 7 G [] [] (swagelaw11_small.post G r) := by
  refine Fn.intro (e := []) 66 Tryd.func7 rfl Tryd.ntmps7 rfl rfl (Nat.le_of_ble_eq_true rfl) (fun L => ?_)
  unfold swagelaw11_small.f at h
  refine TC.seq ?_
  refine TC.region ?_
  refine TL.cons (TO.val rfl rfl rfl (Val.assign rfl) ?_)
  refine TL.nil ?_
  refine TQ.then_ ?_
  refine TC.seq ?_
  refine TC.region ?_
  obtain ⟨y1, hy2, h⟩ := bind_no h
  refine TL.cons (TL.callV (Lin := []) (args := []) rfl rfl rfl hbd27 rfl rfl (swagelaw11_some.calls hy2) rfl ?_)
  rintro _ _ _ _ ⟨rfl, A3, c4, rfl, rfl⟩
  refine TK.share (fun G6 e7 hs8 hb9 => ?_)
  have rd10 : Rd G6 k24 A3 y1.f2 := Rd.row hs8
  have le11 : y1.f2.length ≤ c4 := Row.le hs8
  obtain ⟨y12, hy13, h⟩ := bind_no h
  refine TL.cons (TL.callV (Lin := []) (args := [.agg #[.int .i64 y1.f0, .int .i64 y1.f1, .slice A3 y1.f2.length c4], .int .i64 2]) rfl rfl rfl hbd13 rfl rfl (types_Offset.calls (a0 := y1) (a1 := 2) rd10 le11 hy13) rfl ?_)
  rintro _ _ _ _ ⟨rfl, rfl, rfl⟩
  refine TL.cons (TO.val rfl rfl rfl (Val.move rfl) ?_)
  refine TL.cons (TO.val rfl rfl rfl (Val.extract rfl rfl) ?_)
  refine TL.cons (TO.val rfl rfl rfl (Val.extract rfl rfl) ?_)
  refine TL.cons (TO.val rfl rfl rfl (Val.assign rfl) ?_)
  refine TL.cons (TO.val rfl rfl rfl (Val.assign rfl) ?_)
  refine TL.nil ?_
  refine TQ.then_ ?_
  refine TC.seq ?_
  refine TC.region ?_
  refine TL.cons (TO.val rfl rfl rfl (Val.build (cs := [.int .i64 5, .string (⟨#[]⟩ : ByteArray), .int .i64 0, .slice none 0 0]) (is := [0]) (xs := [.const (.int .i64 5)]) Tryd.underlying36 zr36 bld36 rfl rfl rfl rfl) ?_)
  refine TL.cons (TL.buildSlice (xs := [.tmp 13]) (vs := [.agg #[.int .i64 5, .string (⟨#[]⟩ : ByteArray), .int .i64 0, .slice none 0 0]]) (cs := [.int .i64 5, .string (⟨#[]⟩ : ByteArray), .int .i64 0, .slice none 0 0]) rfl rfl Tryd.underlying34 zs36 rfl rfl rfl rfl rfl rfl rfl rfl (fun b14 => ?_))
  refine TL.cons (TO.val rfl rfl rfl (Val.build (cs := [.int .i64 6, .string (⟨#[]⟩ : ByteArray), .int .i64 0, .slice (some ⟨b14, 0, none⟩) 1 1]) (is := [0, 3]) (xs := [.const (.int .i64 6), .tmp 14]) Tryd.underlying36 zr36 bld36 rfl rfl rfl rfl) ?_)
  refine TK.new (Els.nil k36) ?_
  refine TK.new (Row.nil k36 36) ?_
  refine TK.conv (ch' := El k36 (⟨5, (⟨#[]⟩ : ByteArray), 0, ([] : List S36)⟩ : S36) [.int .i64 5, .string (⟨#[]⟩ : ByteArray), .int .i64 0, .slice none 0 0]) (fun B W F hh => k36_mkM W B F (⟨5, (⟨#[]⟩ : ByteArray), 0, ([] : List S36)⟩ : S36) hh) ?_
  refine TK.sel (Ls := [Els k36 [] [], El k36 (⟨5, (⟨#[]⟩ : ByteArray), 0, ([] : List S36)⟩ : S36) [.int .i64 5, .string (⟨#[]⟩ : ByteArray), .int .i64 0, .slice none 0 0], Blk b14 [.int .i64 5, .string (⟨#[]⟩ : ByteArray), .int .i64 0, .slice none 0 0] 36]) [1, 0, 2] 3 rfl rfl rfl ?_
  refine TK.two (ch := Els k36 [(⟨5, (⟨#[]⟩ : ByteArray), 0, ([] : List S36)⟩ : S36)] [.int .i64 5, .string (⟨#[]⟩ : ByteArray), .int .i64 0, .slice none 0 0]) (Els.snoc k36) ?_
  refine TK.sel (Ls := [Blk b14 [.int .i64 5, .string (⟨#[]⟩ : ByteArray), .int .i64 0, .slice none 0 0] 36, Els k36 [(⟨5, (⟨#[]⟩ : ByteArray), 0, ([] : List S36)⟩ : S36)] [.int .i64 5, .string (⟨#[]⟩ : ByteArray), .int .i64 0, .slice none 0 0]]) [1, 0] 2 rfl rfl rfl ?_
  refine TK.two (ch := Row k36 36 (.slice (some ⟨b14, 0, none⟩) 1 1) ([(⟨5, (⟨#[]⟩ : ByteArray), 0, ([] : List S36)⟩ : S36)] : List S36)) (Row.lit k36 rfl rfl) ?_
  refine TK.share (fun G17 e18 hs19 hb20 => ?_)
  have rd21 : Rd G17 k36 (some ⟨b14, 0, none⟩) ([(⟨5, (⟨#[]⟩ : ByteArray), 0, ([] : List S36)⟩ : S36)] : List S36) := Rd.row hs19
  have le22 : ([(⟨5, (⟨#[]⟩ : ByteArray), 0, ([] : List S36)⟩ : S36)] : List S36).length ≤ 1 := Row.le hs19
  obtain ⟨y23, hy24, h⟩ := bind_no h
  refine TL.cons (TL.callV (Lin := []) (args := [.agg #[.int .i64 6, .string (⟨#[]⟩ : ByteArray), .int .i64 0, .slice (some ⟨b14, 0, none⟩) 1 1]]) rfl rfl rfl hbd25 rfl rfl (types_Of.calls (a0 := (⟨6, (⟨#[]⟩ : ByteArray), 0, ([(⟨5, (⟨#[]⟩ : ByteArray), 0, ([] : List S36)⟩ : S36)] : List S36)⟩ : S36)) rd21 le22 hy24) rfl ?_)
  rintro _ _ _ _ ⟨rfl, A25, c26, rfl, rfl⟩
  refine TL.cons (TO.val rfl rfl rfl (Val.move rfl) ?_)
  refine TL.cons (TO.val rfl rfl rfl (Val.extract rfl rfl) ?_)
  refine TL.cons (TO.val rfl rfl rfl (Val.extract rfl rfl) ?_)
  refine TL.cons (TL.alloc (cs := [.int .i64 0, .int .i64 0, .slice none 0 0]) rfl rfl zr24 rfl (fun b28 => ?_))
  refine TL.cons (TL.store 0 (ds := [.int .i64 y23.1.f0, .int .i64 y23.1.f1, .slice A25 y23.1.f2.length c26]) (cs' := [.int .i64 y23.1.f0, .int .i64 y23.1.f1, .slice A25 y23.1.f2.length c26]) (L' := (Blk b28 [.int .i64 y23.1.f0, .int .i64 y23.1.f1, .slice A25 y23.1.f2.length c26] 24 :: Row k24 24 (.slice A25 y23.1.f2.length c26) y23.1.f2 :: L)) rfl fsz24 rfl rfl rfl rfl rfl (Nat.le_of_ble_eq_true rfl) rfl rfl ?_)
  refine TL.cons (TO.val rfl rfl rfl (Val.assign rfl) ?_)
  refine TL.nil ?_
  refine TQ.then_ ?_
  refine TC.seq ?_
  refine TC.region ?_
  refine TL.cons (TO.val rfl rfl rfl (Val.build (cs := [.int .i64 18, .string (⟨#[]⟩ : ByteArray), .int .i64 0, .slice none 0 0]) (is := [0]) (xs := [.const (.int .i64 18)]) Tryd.underlying36 zr36 bld36 rfl rfl rfl rfl) ?_)
  obtain ⟨y29, hy30, h⟩ := bind_no h
  refine TL.cons (TL.callV (Lin := []) (args := [.agg #[.int .i64 18, .string (⟨#[]⟩ : ByteArray), .int .i64 0, .slice none 0 0]]) rfl rfl rfl hbd25 rfl rfl (types_Of.calls (a0 := (⟨18, (⟨#[]⟩ : ByteArray), 0, ([] : List S36)⟩ : S36)) (Rd.nil _ _) (Nat.le_refl 0) hy30) rfl ?_)
  rintro _ _ _ _ ⟨rfl, A31, c32, rfl, rfl⟩
  refine TL.cons (TO.val rfl rfl rfl (Val.move rfl) ?_)
  refine TL.cons (TO.val rfl rfl rfl (Val.extract rfl rfl) ?_)
  refine TL.cons (TO.val rfl rfl rfl (Val.extract rfl rfl) ?_)
  refine TL.cons (TL.alloc (cs := [.int .i64 0, .int .i64 0, .slice none 0 0]) rfl rfl zr24 rfl (fun b34 => ?_))
  refine TL.cons (TL.store 0 (ds := [.int .i64 y29.1.f0, .int .i64 y29.1.f1, .slice A31 y29.1.f2.length c32]) (cs' := [.int .i64 y29.1.f0, .int .i64 y29.1.f1, .slice A31 y29.1.f2.length c32]) (L' := (Blk b34 [.int .i64 y29.1.f0, .int .i64 y29.1.f1, .slice A31 y29.1.f2.length c32] 24 :: Row k24 24 (.slice A31 y29.1.f2.length c32) y29.1.f2 :: Blk b28 [.int .i64 y23.1.f0, .int .i64 y23.1.f1, .slice A25 y23.1.f2.length c26] 24 :: Row k24 24 (.slice A25 y23.1.f2.length c26) y23.1.f2 :: L)) rfl fsz24 rfl rfl rfl rfl rfl (Nat.le_of_ble_eq_true rfl) rfl rfl ?_)
  refine TL.cons (TO.val rfl rfl rfl (Val.assign rfl) ?_)
  refine TL.nil ?_
  refine TQ.then_ ?_
  refine TC.seq ?_
  refine TC.back hb20 ?_
  refine TC.back hb9 ?_
  refine TC.sel (Ls := [Row k24 24 (.slice A25 y23.1.f2.length c26) y23.1.f2, Row k24 24 (.slice A3 y1.f2.length c4) y1.f2, Row k36 36 (.slice (some ⟨b14, 0, none⟩) 1 1) ([(⟨5, (⟨#[]⟩ : ByteArray), 0, ([] : List S36)⟩ : S36)] : List S36), Blk b34 [.int .i64 y29.1.f0, .int .i64 y29.1.f1, .slice A31 y29.1.f2.length c32] 24, Row k24 24 (.slice A31 y29.1.f2.length c32) y29.1.f2, Blk b28 [.int .i64 y23.1.f0, .int .i64 y23.1.f1, .slice A25 y23.1.f2.length c26] 24]) [5, 0, 1, 2, 3, 4] 6 rfl rfl rfl ?_
  refine TC.share (fun G335 e336 hs337 hb338 => ?_)
  have rd339 : Rd G335 k24 A25 y23.1.f2 := Rd.row hs337
  have le340 : y23.1.f2.length ≤ c26 := Row.le hs337
  refine TC.regionAny [] [2, 3, 4, 5, 6, 7, 8, 9, 10, 11, 12, 13, 14, 15, 16, 17, 18, 19, 20, 21, 22, 23, 24, 25, 26, 27, 28, 29, 30, 31, 32, 33, 34, 35, 36, 37, 38, 39, 40, 41, 42] mixed (by kernel_rfl) ?_
  obtain ⟨y341, hy342, h⟩ := bind_no h
  refine TA.eff 0 rfl (by kernel_rfl) rfl (TL.callV (Lin := []) (args := []) rfl rfl rfl hbd27 rfl rfl (swagelaw11_some.calls hy342) rfl ?_)
  rintro _ _ _ _ ⟨rfl, A343, c344, rfl, rfl⟩
  refine TA.next (fun W hO => hO.selT (Ls := [Row k24 24 (.slice A3 y1.f2.length c4) y1.f2, Row k36 36 (.slice (some ⟨b14, 0, none⟩) 1 1) ([(⟨5, (⟨#[]⟩ : ByteArray), 0, ([] : List S36)⟩ : S36)] : List S36), Blk b34 [.int .i64 y29.1.f0, .int .i64 y29.1.f1, .slice A31 y29.1.f2.length c32] 24, Row k24 24 (.slice A31 y29.1.f2.length c32) y29.1.f2, Blk b28 [.int .i64 y23.1.f0, .int .i64 y23.1.f1, .slice A25 y23.1.f2.length c26] 24]) [1, 2, 3, 4, 5] 6 rfl rfl rfl) ?_
  refine TK.share (fun G346 e347 hs348 hb349 => ?_)
  have rd350 : Rd G346 k24 A343 y341.f2 := Rd.row hs348
  have le351 : y341.f2.length ≤ c344 := Row.le hs348
  obtain ⟨y352, hy353, h⟩ := bind_no h
  refine TA.eff 1 rfl (by kernel_rfl) rfl (TL.callV (Lin := []) (args := [.agg #[.int .i64 y341.f0, .int .i64 y341.f1, .slice A343 y341.f2.length c344]]) rfl rfl rfl hbd15 rfl rfl (types_Right.calls (a0 := y341) rd350 le351 hy353) rfl ?_)
  rintro _ _ _ _ ⟨rfl, rfl, rfl⟩
  refine TA.next (fun W hO => (hb349 _ _ hO).selT (Ls := [Row k24 24 (.slice A3 y1.f2.length c4) y1.f2, Row k36 36 (.slice (some ⟨b14, 0, none⟩) 1 1) ([(⟨5, (⟨#[]⟩ : ByteArray), 0, ([] : List S36)⟩ : S36)] : List S36), Blk b34 [.int .i64 y29.1.f0, .int .i64 y29.1.f1, .slice A31 y29.1.f2.length c32] 24, Row k24 24 (.slice A31 y29.1.f2.length c32) y29.1.f2, Blk b28 [.int .i64 y23.1.f0, .int .i64 y23.1.f1, .slice A25 y23.1.f2.length c26] 24]) [1, 2, 3, 4, 5] 6 rfl rfl rfl) ?_
  refine TA.take 2 rfl (by kernel_rfl) rfl (PQ.then_ PQ.body) rfl (Val.move rfl) (fun W hO => (hb349 _ _ hO).selT (Ls := [Row k24 24 (.slice A3 y1.f2.length c4) y1.f2, Row k36 36 (.slice (some ⟨b14, 0, none⟩) 1 1) ([(⟨5, (⟨#[]⟩ : ByteArray), 0, ([] : List S36)⟩ : S36)] : List S36), Blk b34 [.int .i64 y29.1.f0, .int .i64 y29.1.f1, .slice A31 y29.1.f2.length c32] 24, Row k24 24 (.slice A31 y29.1.f2.length c32) y29.1.f2, Blk b28 [.int .i64 y23.1.f0, .int .i64 y23.1.f1, .slice A25 y23.1.f2.length c26] 24]) [1, 2, 3, 4, 5] 6 rfl rfl rfl) ?_
  refine TK.split (p := y352 = true) h (fun hg354 h => ?_) (fun hg354 h => ?_)
  · have hk355 : y352 = true := hg354
    obtain ⟨y356, hy357, h⟩ := bind_no h
    refine TA.eff 3 rfl (by kernel_rfl) rfl (TL.callV (Lin := []) (args := []) (Wt.yes rfl rfl rfl hk355) rfl rfl hbd27 rfl rfl (swagelaw11_some.calls hy357) rfl ?_)
    rintro _ _ _ _ ⟨rfl, A358, c359, rfl, rfl⟩
    refine TA.next (fun W hO => (hb349 _ _ hO).selT (Ls := [Row k24 24 (.slice A3 y1.f2.length c4) y1.f2, Row k36 36 (.slice (some ⟨b14, 0, none⟩) 1 1) ([(⟨5, (⟨#[]⟩ : ByteArray), 0, ([] : List S36)⟩ : S36)] : List S36), Blk b34 [.int .i64 y29.1.f0, .int .i64 y29.1.f1, .slice A31 y29.1.f2.length c32] 24, Row k24 24 (.slice A31 y29.1.f2.length c32) y29.1.f2, Blk b28 [.int .i64 y23.1.f0, .int .i64 y23.1.f1, .slice A25 y23.1.f2.length c26] 24]) [2, 3, 4, 5, 6] 7 rfl rfl rfl) ?_
    refine TK.share (fun G361 e362 hs363 hb364 => ?_)
    have rd365 : Rd G361 k24 A358 y356.f2 := Rd.row hs363
    have le366 : y356.f2.length ≤ c359 := Row.le hs363
    obtain ⟨y367, hy368, h⟩ := bind_no h
    refine TA.eff 4 rfl (by kernel_rfl) rfl (TL.callV (Lin := []) (args := [.agg #[.int .i64 y356.f0, .int .i64 y356.f1, .slice A358 y356.f2.length c359]]) (Wt.yes rfl rfl rfl hk355) rfl rfl hbd17 rfl rfl (types_Size.calls (a0 := y356) rd365 le366 hy368) rfl ?_)
    rintro _ _ _ _ ⟨rfl, rfl, rfl⟩
    refine TA.next (fun W hO => (hb349 _ _ (hb364 _ _ hO)).selT (Ls := [Row k24 24 (.slice A3 y1.f2.length c4) y1.f2, Row k36 36 (.slice (some ⟨b14, 0, none⟩) 1 1) ([(⟨5, (⟨#[]⟩ : ByteArray), 0, ([] : List S36)⟩ : S36)] : List S36), Blk b34 [.int .i64 y29.1.f0, .int .i64 y29.1.f1, .slice A31 y29.1.f2.length c32] 24, Row k24 24 (.slice A31 y29.1.f2.length c32) y29.1.f2, Blk b28 [.int .i64 y23.1.f0, .int .i64 y23.1.f1, .slice A25 y23.1.f2.length c26] 24]) [2, 3, 4, 5, 6] 7 rfl rfl rfl) ?_
    refine TA.take 5 rfl (by kernel_rfl) rfl (PQ.then_ PQ.body) (Wt.yes rfl rfl rfl hk355) (Val.cmp rfl rfl run_eql) (fun W hO => (hb349 _ _ (hb364 _ _ hO)).selT (Ls := [Row k24 24 (.slice A3 y1.f2.length c4) y1.f2, Row k36 36 (.slice (some ⟨b14, 0, none⟩) 1 1) ([(⟨5, (⟨#[]⟩ : ByteArray), 0, ([] : List S36)⟩ : S36)] : List S36), Blk b34 [.int .i64 y29.1.f0, .int .i64 y29.1.f1, .slice A31 y29.1.f2.length c32] 24, Row k24 24 (.slice A31 y29.1.f2.length c32) y29.1.f2, Blk b28 [.int .i64 y23.1.f0, .int .i64 y23.1.f1, .slice A25 y23.1.f2.length c26] 24]) [2, 3, 4, 5, 6] 7 rfl rfl rfl) ?_
    refine TA.take 6 rfl (by kernel_rfl) rfl (PQ.then_ PQ.body) rfl (Val.pickY rfl hk355 rfl) (fun W hO => (hb349 _ _ (hb364 _ _ hO)).selT (Ls := [Row k24 24 (.slice A3 y1.f2.length c4) y1.f2, Row k36 36 (.slice (some ⟨b14, 0, none⟩) 1 1) ([(⟨5, (⟨#[]⟩ : ByteArray), 0, ([] : List S36)⟩ : S36)] : List S36), Blk b34 [.int .i64 y29.1.f0, .int .i64 y29.1.f1, .slice A31 y29.1.f2.length c32] 24, Row k24 24 (.slice A31 y29.1.f2.length c32) y29.1.f2, Blk b28 [.int .i64 y23.1.f0, .int .i64 y23.1.f1, .slice A25 y23.1.f2.length c26] 24]) [2, 3, 4, 5, 6] 7 rfl rfl rfl) ?_
    refine TA.take 7 rfl (by kernel_rfl) rfl (PQ.then_ PQ.body) rfl (Val.move rfl) (fun W hO => (hb349 _ _ (hb364 _ _ hO)).selT (Ls := [Row k24 24 (.slice A3 y1.f2.length c4) y1.f2, Row k36 36 (.slice (some ⟨b14, 0, none⟩) 1 1) ([(⟨5, (⟨#[]⟩ : ByteArray), 0, ([] : List S36)⟩ : S36)] : List S36), Blk b34 [.int .i64 y29.1.f0, .int .i64 y29.1.f1, .slice A31 y29.1.f2.length c32] 24, Row k24 24 (.slice A31 y29.1.f2.length c32) y29.1.f2, Blk b28 [.int .i64 y23.1.f0, .int .i64 y23.1.f1, .slice A25 y23.1.f2.length c26] 24]) [2, 3, 4, 5, 6] 7 rfl rfl rfl) ?_
    refine TK.split (p := y367 = 5) h (fun hg369 h => ?_) (fun hg369 h => ?_)
    · have hk370 : decide (y367 = 5) = true := decide_eq_true hg369
      refine TA.take 8 rfl (by kernel_rfl) rfl (PQ.then_ PQ.body) (Wt.yes rfl rfl rfl hk370) (Val.move rfl) (fun W hO => (hb349 _ _ (hb364 _ _ hO)).selT (Ls := [Row k24 24 (.slice A3 y1.f2.length c4) y1.f2, Row k36 36 (.slice (some ⟨b14, 0, none⟩) 1 1) ([(⟨5, (⟨#[]⟩ : ByteArray), 0, ([] : List S36)⟩ : S36)] : List S36), Blk b34 [.int .i64 y29.1.f0, .int .i64 y29.1.f1, .slice A31 y29.1.f2.length c32] 24, Row k24 24 (.slice A31 y29.1.f2.length c32) y29.1.f2, Blk b28 [.int .i64 y23.1.f0, .int .i64 y23.1.f1, .slice A25 y23.1.f2.length c26] 24]) [2, 3, 4, 5, 6] 7 rfl rfl rfl) ?_
      refine TA.take 9 rfl (by kernel_rfl) rfl (PQ.then_ PQ.body) (Wt.yes rfl rfl rfl hk370) (Val.cmp rfl rfl run_eql) (fun W hO => (hb349 _ _ (hb364 _ _ hO)).selT (Ls := [Row k24 24 (.slice A3 y1.f2.length c4) y1.f2, Row k36 36 (.slice (some ⟨b14, 0, none⟩) 1 1) ([(⟨5, (⟨#[]⟩ : ByteArray), 0, ([] : List S36)⟩ : S36)] : List S36), Blk b34 [.int .i64 y29.1.f0, .int .i64 y29.1.f1, .slice A31 y29.1.f2.length c32] 24, Row k24 24 (.slice A31 y29.1.f2.length c32) y29.1.f2, Blk b28 [.int .i64 y23.1.f0, .int .i64 y23.1.f1, .slice A25 y23.1.f2.length c26] 24]) [2, 3, 4, 5, 6] 7 rfl rfl rfl) ?_
      refine TA.take 10 rfl (by kernel_rfl) rfl (PQ.then_ PQ.body) rfl (Val.pickY rfl hk370 rfl) (fun W hO => (hb349 _ _ (hb364 _ _ hO)).selT (Ls := [Row k24 24 (.slice A3 y1.f2.length c4) y1.f2, Row k36 36 (.slice (some ⟨b14, 0, none⟩) 1 1) ([(⟨5, (⟨#[]⟩ : ByteArray), 0, ([] : List S36)⟩ : S36)] : List S36), Blk b34 [.int .i64 y29.1.f0, .int .i64 y29.1.f1, .slice A31 y29.1.f2.length c32] 24, Row k24 24 (.slice A31 y29.1.f2.length c32) y29.1.f2, Blk b28 [.int .i64 y23.1.f0, .int .i64 y23.1.f1, .slice A25 y23.1.f2.length c26] 24]) [2, 3, 4, 5, 6] 7 rfl rfl rfl) ?_
      refine TA.take 11 rfl (by kernel_rfl) rfl (PQ.then_ PQ.body) rfl (Val.move rfl) (fun W hO => (hb349 _ _ (hb364 _ _ hO)).selT (Ls := [Row k24 24 (.slice A3 y1.f2.length c4) y1.f2, Row k36 36 (.slice (some ⟨b14, 0, none⟩) 1 1) ([(⟨5, (⟨#[]⟩ : ByteArray), 0, ([] : List S36)⟩ : S36)] : List S36), Blk b34 [.int .i64 y29.1.f0, .int .i64 y29.1.f1, .slice A31 y29.1.f2.length c32] 24, Row k24 24 (.slice A31 y29.1.f2.length c32) y29.1.f2, Blk b28 [.int .i64 y23.1.f0, .int .i64 y23.1.f1, .slice A25 y23.1.f2.length c26] 24]) [2, 3, 4, 5, 6] 7 rfl rfl rfl) ?_
      refine TK.split (p := y12.1 = 4) h (fun hg371 h => ?_) (fun hg371 h => ?_)
      · have hk372 : decide (y12.1 = 4) = true := decide_eq_true hg371
        refine TA.take 12 rfl (by kernel_rfl) rfl (PQ.then_ PQ.body) (Wt.yes rfl rfl rfl hk372) (Val.move rfl) (fun W hO => (hb349 _ _ (hb364 _ _ hO)).selT (Ls := [Row k24 24 (.slice A3 y1.f2.length c4) y1.f2, Row k36 36 (.slice (some ⟨b14, 0, none⟩) 1 1) ([(⟨5, (⟨#[]⟩ : ByteArray), 0, ([] : List S36)⟩ : S36)] : List S36), Blk b34 [.int .i64 y29.1.f0, .int .i64 y29.1.f1, .slice A31 y29.1.f2.length c32] 24, Row k24 24 (.slice A31 y29.1.f2.length c32) y29.1.f2, Blk b28 [.int .i64 y23.1.f0, .int .i64 y23.1.f1, .slice A25 y23.1.f2.length c26] 24]) [2, 3, 4, 5, 6] 7 rfl rfl rfl) ?_
        refine TA.take 13 rfl (by kernel_rfl) rfl (PQ.then_ PQ.body) rfl (Val.pickY rfl hk372 rfl) (fun W hO => (hb349 _ _ (hb364 _ _ hO)).selT (Ls := [Row k24 24 (.slice A3 y1.f2.length c4) y1.f2, Row k36 36 (.slice (some ⟨b14, 0, none⟩) 1 1) ([(⟨5, (⟨#[]⟩ : ByteArray), 0, ([] : List S36)⟩ : S36)] : List S36), Blk b34 [.int .i64 y29.1.f0, .int .i64 y29.1.f1, .slice A31 y29.1.f2.length c32] 24, Row k24 24 (.slice A31 y29.1.f2.length c32) y29.1.f2, Blk b28 [.int .i64 y23.1.f0, .int .i64 y23.1.f1, .slice A25 y23.1.f2.length c26] 24]) [2, 3, 4, 5, 6] 7 rfl rfl rfl) ?_
        refine TA.take 14 rfl (by kernel_rfl) rfl (PQ.then_ PQ.body) rfl (Val.move rfl) (fun W hO => (hb349 _ _ (hb364 _ _ hO)).selT (Ls := [Row k24 24 (.slice A3 y1.f2.length c4) y1.f2, Row k36 36 (.slice (some ⟨b14, 0, none⟩) 1 1) ([(⟨5, (⟨#[]⟩ : ByteArray), 0, ([] : List S36)⟩ : S36)] : List S36), Blk b34 [.int .i64 y29.1.f0, .int .i64 y29.1.f1, .slice A31 y29.1.f2.length c32] 24, Row k24 24 (.slice A31 y29.1.f2.length c32) y29.1.f2, Blk b28 [.int .i64 y23.1.f0, .int .i64 y23.1.f1, .slice A25 y23.1.f2.length c26] 24]) [2, 3, 4, 5, 6] 7 rfl rfl rfl) ?_
        refine TK.split (p := y12.2 = true) h (fun hg373 h => ?_) (fun hg373 h => ?_)
        · have hk374 : y12.2 = true := hg373
          obtain ⟨y375, hy376, h⟩ := bind_no h
          refine TA.eff 15 rfl (by kernel_rfl) rfl (TL.callV (Lin := []) (args := []) (Wt.yes rfl rfl rfl hk374) rfl rfl hbd27 rfl rfl (swagelaw11_some.calls hy376) rfl ?_)
          rintro _ _ _ _ ⟨rfl, A377, c378, rfl, rfl⟩
          refine TA.next (fun W hO => (hb349 _ _ (hb364 _ _ hO)).selT (Ls := [Row k24 24 (.slice A3 y1.f2.length c4) y1.f2, Row k36 36 (.slice (some ⟨b14, 0, none⟩) 1 1) ([(⟨5, (⟨#[]⟩ : ByteArray), 0, ([] : List S36)⟩ : S36)] : List S36), Blk b34 [.int .i64 y29.1.f0, .int .i64 y29.1.f1, .slice A31 y29.1.f2.length c32] 24, Row k24 24 (.slice A31 y29.1.f2.length c32) y29.1.f2, Blk b28 [.int .i64 y23.1.f0, .int .i64 y23.1.f1, .slice A25 y23.1.f2.length c26] 24]) [3, 4, 5, 6, 7] 8 rfl rfl rfl) ?_
          refine TK.share (fun G380 e381 hs382 hb383 => ?_)
          have rd384 : Rd G380 k24 A377 y375.f2 := Rd.row hs382
          have le385 : y375.f2.length ≤ c378 := Row.le hs382
          obtain ⟨y386, hy387, h⟩ := bind_no h
          refine TA.eff 16 rfl (by kernel_rfl) rfl (TL.callV (Lin := []) (args := [.agg #[.int .i64 y375.f0, .int .i64 y375.f1, .slice A377 y375.f2.length c378]]) (Wt.yes rfl rfl rfl hk374) rfl rfl hbd22 rfl rfl (types_Text.calls (a0 := y375) (ht.up (Gd.le.trans (Gd.le.trans (Gd.le.trans e336 e347) e362) e381)) rd384 le385 hy387) rfl ?_)
          rintro _ _ _ _ ⟨rfl, rfl, rfl⟩
          refine TA.next (fun W hO => (hb349 _ _ (hb364 _ _ (hb383 _ _ hO))).selT (Ls := [Row k24 24 (.slice A3 y1.f2.length c4) y1.f2, Row k36 36 (.slice (some ⟨b14, 0, none⟩) 1 1) ([(⟨5, (⟨#[]⟩ : ByteArray), 0, ([] : List S36)⟩ : S36)] : List S36), Blk b34 [.int .i64 y29.1.f0, .int .i64 y29.1.f1, .slice A31 y29.1.f2.length c32] 24, Row k24 24 (.slice A31 y29.1.f2.length c32) y29.1.f2, Blk b28 [.int .i64 y23.1.f0, .int .i64 y23.1.f1, .slice A25 y23.1.f2.length c26] 24]) [3, 4, 5, 6, 7] 8 rfl rfl rfl) ?_
          refine TA.take 17 rfl (by kernel_rfl) rfl (PQ.then_ PQ.body) (Wt.yes rfl rfl rfl hk374) (Val.eqT rfl rfl) (fun W hO => (hb349 _ _ (hb364 _ _ (hb383 _ _ hO))).selT (Ls := [Row k24 24 (.slice A3 y1.f2.length c4) y1.f2, Row k36 36 (.slice (some ⟨b14, 0, none⟩) 1 1) ([(⟨5, (⟨#[]⟩ : ByteArray), 0, ([] : List S36)⟩ : S36)] : List S36), Blk b34 [.int .i64 y29.1.f0, .int .i64 y29.1.f1, .slice A31 y29.1.f2.length c32] 24, Row k24 24 (.slice A31 y29.1.f2.length c32) y29.1.f2, Blk b28 [.int .i64 y23.1.f0, .int .i64 y23.1.f1, .slice A25 y23.1.f2.length c26] 24]) [3, 4, 5, 6, 7] 8 rfl rfl rfl) ?_
          refine TA.take 18 rfl (by kernel_rfl) rfl (PQ.then_ PQ.body) rfl (Val.pickY rfl hk374 rfl) (fun W hO => (hb349 _ _ (hb364 _ _ (hb383 _ _ hO))).selT (Ls := [Row k24 24 (.slice A3 y1.f2.length c4) y1.f2, Row k36 36 (.slice (some ⟨b14, 0, none⟩) 1 1) ([(⟨5, (⟨#[]⟩ : ByteArray), 0, ([] : List S36)⟩ : S36)] : List S36), Blk b34 [.int .i64 y29.1.f0, .int .i64 y29.1.f1, .slice A31 y29.1.f2.length c32] 24, Row k24 24 (.slice A31 y29.1.f2.length c32) y29.1.f2, Blk b28 [.int .i64 y23.1.f0, .int .i64 y23.1.f1, .slice A25 y23.1.f2.length c26] 24]) [3, 4, 5, 6, 7] 8 rfl rfl rfl) ?_
          refine TA.take 19 rfl (by kernel_rfl) rfl (PQ.then_ PQ.body) rfl (Val.move rfl) (fun W hO => (hb349 _ _ (hb364 _ _ (hb383 _ _ hO))).selT (Ls := [Row k24 24 (.slice A3 y1.f2.length c4) y1.f2, Row k36 36 (.slice (some ⟨b14, 0, none⟩) 1 1) ([(⟨5, (⟨#[]⟩ : ByteArray), 0, ([] : List S36)⟩ : S36)] : List S36), Blk b34 [.int .i64 y29.1.f0, .int .i64 y29.1.f1, .slice A31 y29.1.f2.length c32] 24, Row k24 24 (.slice A31 y29.1.f2.length c32) y29.1.f2, Blk b28 [.int .i64 y23.1.f0, .int .i64 y23.1.f1, .slice A25 y23.1.f2.length c26] 24]) [3, 4, 5, 6, 7] 8 rfl rfl rfl) ?_
          refine TK.split (p := (y386.data.toList == (⟨#[40, 105, 110, 116, 44, 91, 51, 93, 42, 105, 110, 116, 44, 105, 110, 116, 41]⟩ : ByteArray).data.toList) = true) h (fun hg388 h => ?_) (fun hg388 h => ?_)
          · have hk389 : (y386.data.toList == (⟨#[40, 105, 110, 116, 44, 91, 51, 93, 42, 105, 110, 116, 44, 105, 110, 116, 41]⟩ : ByteArray).data.toList) = true := hg388
            refine TA.take 20 rfl (by kernel_rfl) rfl (PQ.then_ PQ.body) (Wt.yes rfl rfl rfl hk389) (Val.move rfl) (fun W hO => (hb349 _ _ (hb364 _ _ (hb383 _ _ hO))).selT (Ls := [Row k24 24 (.slice A3 y1.f2.length c4) y1.f2, Row k36 36 (.slice (some ⟨b14, 0, none⟩) 1 1) ([(⟨5, (⟨#[]⟩ : ByteArray), 0, ([] : List S36)⟩ : S36)] : List S36), Blk b34 [.int .i64 y29.1.f0, .int .i64 y29.1.f1, .slice A31 y29.1.f2.length c32] 24, Row k24 24 (.slice A31 y29.1.f2.length c32) y29.1.f2, Blk b28 [.int .i64 y23.1.f0, .int .i64 y23.1.f1, .slice A25 y23.1.f2.length c26] 24]) [3, 4, 5, 6, 7] 8 rfl rfl rfl) ?_
            refine TA.take 21 rfl (by kernel_rfl) rfl (PQ.then_ PQ.body) (Wt.yes rfl rfl rfl hk389) (Val.cmp rfl rfl run_eql) (fun W hO => (hb349 _ _ (hb364 _ _ (hb383 _ _ hO))).selT (Ls := [Row k24 24 (.slice A3 y1.f2.length c4) y1.f2, Row k36 36 (.slice (some ⟨b14, 0, none⟩) 1 1) ([(⟨5, (⟨#[]⟩ : ByteArray), 0, ([] : List S36)⟩ : S36)] : List S36), Blk b34 [.int .i64 y29.1.f0, .int .i64 y29.1.f1, .slice A31 y29.1.f2.length c32] 24, Row k24 24 (.slice A31 y29.1.f2.length c32) y29.1.f2, Blk b28 [.int .i64 y23.1.f0, .int .i64 y23.1.f1, .slice A25 y23.1.f2.length c26] 24]) [3, 4, 5, 6, 7] 8 rfl rfl rfl) ?_
            refine TA.take 22 rfl (by kernel_rfl) rfl (PQ.then_ PQ.body) rfl (Val.pickY rfl hk389 rfl) (fun W hO => (hb349 _ _ (hb364 _ _ (hb383 _ _ hO))).selT (Ls := [Row k24 24 (.slice A3 y1.f2.length c4) y1.f2, Row k36 36 (.slice (some ⟨b14, 0, none⟩) 1 1) ([(⟨5, (⟨#[]⟩ : ByteArray), 0, ([] : List S36)⟩ : S36)] : List S36), Blk b34 [.int .i64 y29.1.f0, .int .i64 y29.1.f1, .slice A31 y29.1.f2.length c32] 24, Row k24 24 (.slice A31 y29.1.f2.length c32) y29.1.f2, Blk b28 [.int .i64 y23.1.f0, .int .i64 y23.1.f1, .slice A25 y23.1.f2.length c26] 24]) [3, 4, 5, 6, 7] 8 rfl rfl rfl) ?_
            refine TA.take 23 rfl (by kernel_rfl) rfl (PQ.then_ PQ.body) rfl (Val.move rfl) (fun W hO => (hb349 _ _ (hb364 _ _ (hb383 _ _ hO))).selT (Ls := [Row k24 24 (.slice A3 y1.f2.length c4) y1.f2, Row k36 36 (.slice (some ⟨b14, 0, none⟩) 1 1) ([(⟨5, (⟨#[]⟩ : ByteArray), 0, ([] : List S36)⟩ : S36)] : List S36), Blk b34 [.int .i64 y29.1.f0, .int .i64 y29.1.f1, .slice A31 y29.1.f2.length c32] 24, Row k24 24 (.slice A31 y29.1.f2.length c32) y29.1.f2, Blk b28 [.int .i64 y23.1.f0, .int .i64 y23.1.f1, .slice A25 y23.1.f2.length c26] 24]) [3, 4, 5, 6, 7] 8 rfl rfl rfl) ?_
            refine TK.split (p := y23.2 = 0) h (fun hg390 h => ?_) (fun hg390 h => ?_)
            · have hk391 : decide (y23.2 = 0) = true := decide_eq_true hg390
              refine TA.take 24 rfl (by kernel_rfl) rfl (PQ.then_ PQ.body) (Wt.yes rfl rfl rfl hk391) (Val.loadsB 4 (cs := [.int .i64 y23.1.f0, .int .i64 y23.1.f1, .slice A25 y23.1.f2.length c26]) agg24 fsz24 rfl rfl rfl rfl) (fun W hO => (hb349 _ _ (hb364 _ _ (hb383 _ _ hO))).selT (Ls := [Row k24 24 (.slice A3 y1.f2.length c4) y1.f2, Row k36 36 (.slice (some ⟨b14, 0, none⟩) 1 1) ([(⟨5, (⟨#[]⟩ : ByteArray), 0, ([] : List S36)⟩ : S36)] : List S36), Blk b34 [.int .i64 y29.1.f0, .int .i64 y29.1.f1, .slice A31 y29.1.f2.length c32] 24, Row k24 24 (.slice A31 y29.1.f2.length c32) y29.1.f2, Blk b28 [.int .i64 y23.1.f0, .int .i64 y23.1.f1, .slice A25 y23.1.f2.length c26] 24]) [3, 4, 5, 6, 7] 8 rfl rfl rfl) ?_
              refine TA.take 25 rfl (by kernel_rfl) rfl (PQ.then_ PQ.body) (Wt.yes rfl rfl rfl hk391) (Val.build (cs := [.int .i64 1, .int .i64 0, .slice none 0 0]) (is := [0]) (xs := [.const (.int .i64 1)]) Tryd.underlying24 zr24 bld24 rfl rfl rfl rfl) (fun W hO => (hb349 _ _ (hb364 _ _ (hb383 _ _ hO))).selT (Ls := [Row k24 24 (.slice A3 y1.f2.length c4) y1.f2, Row k36 36 (.slice (some ⟨b14, 0, none⟩) 1 1) ([(⟨5, (⟨#[]⟩ : ByteArray), 0, ([] : List S36)⟩ : S36)] : List S36), Blk b34 [.int .i64 y29.1.f0, .int .i64 y29.1.f1, .slice A31 y29.1.f2.length c32] 24, Row k24 24 (.slice A31 y29.1.f2.length c32) y29.1.f2, Blk b28 [.int .i64 y23.1.f0, .int .i64 y23.1.f1, .slice A25 y23.1.f2.length c26] 24]) [3, 4, 5, 6, 7] 8 rfl rfl rfl) ?_
              obtain ⟨y392, hy393, h⟩ := bind_no h
              refine TA.eff 26 rfl (by kernel_rfl) rfl (TL.callV (Lin := []) (args := [.agg #[.int .i64 1, .int .i64 0, .slice none 0 0]]) (Wt.yes rfl rfl rfl hk391) rfl rfl hbd11 rfl rfl (types_Pointer.calls (a0 := (⟨1, 0, ([] : List S24)⟩ : S24)) (Rd.nil _ _) (Nat.le_refl 0) hy393) rfl ?_)
              rintro _ _ _ _ ⟨rfl, A394, c395, rfl, rfl⟩
              refine TA.next (fun W hO => (hb349 _ _ (hb364 _ _ (hb383 _ _ hO))).selT (Ls := [Row k24 24 (.slice A3 y1.f2.length c4) y1.f2, Row k36 36 (.slice (some ⟨b14, 0, none⟩) 1 1) ([(⟨5, (⟨#[]⟩ : ByteArray), 0, ([] : List S36)⟩ : S36)] : List S36), Blk b34 [.int .i64 y29.1.f0, .int .i64 y29.1.f1, .slice A31 y29.1.f2.length c32] 24, Row k24 24 (.slice A31 y29.1.f2.length c32) y29.1.f2, Blk b28 [.int .i64 y23.1.f0, .int .i64 y23.1.f1, .slice A25 y23.1.f2.length c26] 24]) [4, 5, 6, 7, 8] 9 rfl rfl rfl) ?_
              refine TK.share (fun G397 e398 hs399 hb400 => ?_)
              have rd401 : Rd G397 k24 A394 y392.f2 := Rd.row hs399
              have le402 : y392.f2.length ≤ c395 := Row.le hs399
              obtain ⟨y403, hy404, h⟩ := bind_no h
              refine TA.eff 27 rfl (by kernel_rfl) rfl (TL.callV (Lin := []) (args := [.agg #[.int .i64 y23.1.f0, .int .i64 y23.1.f1, .slice A25 y23.1.f2.length c26], .agg #[.int .i64 y392.f0, .int .i64 y392.f1, .slice A394 y392.f2.length c395]]) (Wt.yes rfl rfl rfl hk391) rfl rfl hbd19 rfl rfl (types_Same.calls (a0 := y23.1) (a1 := y392) (rd339.up (Gd.le.trans (Gd.le.trans (Gd.le.trans e347 e362) e381) e398)) le340 rd401 le402 hy404) rfl ?_)
              rintro _ _ _ _ ⟨rfl, rfl, rfl⟩
              refine TA.next (fun W hO => (hb349 _ _ (hb364 _ _ (hb383 _ _ (hb400 _ _ hO)))).selT (Ls := [Row k24 24 (.slice A3 y1.f2.length c4) y1.f2, Row k36 36 (.slice (some ⟨b14, 0, none⟩) 1 1) ([(⟨5, (⟨#[]⟩ : ByteArray), 0, ([] : List S36)⟩ : S36)] : List S36), Blk b34 [.int .i64 y29.1.f0, .int .i64 y29.1.f1, .slice A31 y29.1.f2.length c32] 24, Row k24 24 (.slice A31 y29.1.f2.length c32) y29.1.f2, Blk b28 [.int .i64 y23.1.f0, .int .i64 y23.1.f1, .slice A25 y23.1.f2.length c26] 24]) [4, 5, 6, 7, 8] 9 rfl rfl rfl) ?_
              refine TA.take 28 rfl (by kernel_rfl) rfl (PQ.then_ PQ.body) rfl (Val.pickY rfl hk391 rfl) (fun W hO => (hb349 _ _ (hb364 _ _ (hb383 _ _ (hb400 _ _ hO)))).selT (Ls := [Row k24 24 (.slice A3 y1.f2.length c4) y1.f2, Row k36 36 (.slice (some ⟨b14, 0, none⟩) 1 1) ([(⟨5, (⟨#[]⟩ : ByteArray), 0, ([] : List S36)⟩ : S36)] : List S36), Blk b34 [.int .i64 y29.1.f0, .int .i64 y29.1.f1, .slice A31 y29.1.f2.length c32] 24, Row k24 24 (.slice A31 y29.1.f2.length c32) y29.1.f2, Blk b28 [.int .i64 y23.1.f0, .int .i64 y23.1.f1, .slice A25 y23.1.f2.length c26] 24]) [4, 5, 6, 7, 8] 9 rfl rfl rfl) ?_
              refine TA.take 29 rfl (by kernel_rfl) rfl (PQ.then_ PQ.body) rfl (Val.move rfl) (fun W hO => (hb349 _ _ (hb364 _ _ (hb383 _ _ (hb400 _ _ hO)))).selT (Ls := [Row k24 24 (.slice A3 y1.f2.length c4) y1.f2, Row k36 36 (.slice (some ⟨b14, 0, none⟩) 1 1) ([(⟨5, (⟨#[]⟩ : ByteArray), 0, ([] : List S36)⟩ : S36)] : List S36), Blk b34 [.int .i64 y29.1.f0, .int .i64 y29.1.f1, .slice A31 y29.1.f2.length c32] 24, Row k24 24 (.slice A31 y29.1.f2.length c32) y29.1.f2, Blk b28 [.int .i64 y23.1.f0, .int .i64 y23.1.f1, .slice A25 y23.1.f2.length c26] 24]) [4, 5, 6, 7, 8] 9 rfl rfl rfl) ?_
              refine TK.split (p := y403 = true) h (fun hg405 h => ?_) (fun hg405 h => ?_)
              · have hk406 : y403 = true := hg405
                refine TA.take 30 rfl (by kernel_rfl) rfl (PQ.then_ PQ.body) (Wt.yes rfl rfl rfl hk406) (Val.move rfl) (fun W hO => (hb349 _ _ (hb364 _ _ (hb383 _ _ (hb400 _ _ hO)))).selT (Ls := [Row k24 24 (.slice A3 y1.f2.length c4) y1.f2, Row k36 36 (.slice (some ⟨b14, 0, none⟩) 1 1) ([(⟨5, (⟨#[]⟩ : ByteArray), 0, ([] : List S36)⟩ : S36)] : List S36), Blk b34 [.int .i64 y29.1.f0, .int .i64 y29.1.f1, .slice A31 y29.1.f2.length c32] 24, Row k24 24 (.slice A31 y29.1.f2.length c32) y29.1.f2, Blk b28 [.int .i64 y23.1.f0, .int .i64 y23.1.f1, .slice A25 y23.1.f2.length c26] 24]) [4, 5, 6, 7, 8] 9 rfl rfl rfl) ?_
                refine TA.take 31 rfl (by kernel_rfl) rfl (PQ.then_ PQ.body) (Wt.yes rfl rfl rfl hk406) (Val.cmp rfl rfl run_eql) (fun W hO => (hb349 _ _ (hb364 _ _ (hb383 _ _ (hb400 _ _ hO)))).selT (Ls := [Row k24 24 (.slice A3 y1.f2.length c4) y1.f2, Row k36 36 (.slice (some ⟨b14, 0, none⟩) 1 1) ([(⟨5, (⟨#[]⟩ : ByteArray), 0, ([] : List S36)⟩ : S36)] : List S36), Blk b34 [.int .i64 y29.1.f0, .int .i64 y29.1.f1, .slice A31 y29.1.f2.length c32] 24, Row k24 24 (.slice A31 y29.1.f2.length c32) y29.1.f2, Blk b28 [.int .i64 y23.1.f0, .int .i64 y23.1.f1, .slice A25 y23.1.f2.length c26] 24]) [4, 5, 6, 7, 8] 9 rfl rfl rfl) ?_
                refine TA.take 32 rfl (by kernel_rfl) rfl (PQ.then_ PQ.body) rfl (Val.pickY rfl hk406 rfl) (fun W hO => (hb349 _ _ (hb364 _ _ (hb383 _ _ (hb400 _ _ hO)))).selT (Ls := [Row k24 24 (.slice A3 y1.f2.length c4) y1.f2, Row k36 36 (.slice (some ⟨b14, 0, none⟩) 1 1) ([(⟨5, (⟨#[]⟩ : ByteArray), 0, ([] : List S36)⟩ : S36)] : List S36), Blk b34 [.int .i64 y29.1.f0, .int .i64 y29.1.f1, .slice A31 y29.1.f2.length c32] 24, Row k24 24 (.slice A31 y29.1.f2.length c32) y29.1.f2, Blk b28 [.int .i64 y23.1.f0, .int .i64 y23.1.f1, .slice A25 y23.1.f2.length c26] 24]) [4, 5, 6, 7, 8] 9 rfl rfl rfl) ?_
                refine TA.take 33 rfl (by kernel_rfl) rfl (PQ.then_ PQ.body) rfl (Val.move rfl) (fun W hO => (hb349 _ _ (hb364 _ _ (hb383 _ _ (hb400 _ _ hO)))).selT (Ls := [Row k24 24 (.slice A3 y1.f2.length c4) y1.f2, Row k36 36 (.slice (some ⟨b14, 0, none⟩) 1 1) ([(⟨5, (⟨#[]⟩ : ByteArray), 0, ([] : List S36)⟩ : S36)] : List S36), Blk b34 [.int .i64 y29.1.f0, .int .i64 y29.1.f1, .slice A31 y29.1.f2.length c32] 24, Row k24 24 (.slice A31 y29.1.f2.length c32) y29.1.f2, Blk b28 [.int .i64 y23.1.f0, .int .i64 y23.1.f1, .slice A25 y23.1.f2.length c26] 24]) [4, 5, 6, 7, 8] 9 rfl rfl rfl) ?_
                refine TK.split (p := y29.2 = 1) h (fun hg407 h => ?_) (fun hg407 h => ?_)
                · have hk408 : decide (y29.2 = 1) = true := decide_eq_true hg407
                  refine TA.take 34 rfl (by kernel_rfl) rfl (PQ.then_ PQ.body) (Wt.yes rfl rfl rfl hk408) (Val.loadsB 4 (cs := [.int .i64 y23.1.f0, .int .i64 y23.1.f1, .slice A25 y23.1.f2.length c26]) agg24 fsz24 rfl rfl rfl rfl) (fun W hO => (hb349 _ _ (hb364 _ _ (hb383 _ _ (hb400 _ _ hO)))).selT (Ls := [Row k24 24 (.slice A3 y1.f2.length c4) y1.f2, Row k36 36 (.slice (some ⟨b14, 0, none⟩) 1 1) ([(⟨5, (⟨#[]⟩ : ByteArray), 0, ([] : List S36)⟩ : S36)] : List S36), Blk b34 [.int .i64 y29.1.f0, .int .i64 y29.1.f1, .slice A31 y29.1.f2.length c32] 24, Row k24 24 (.slice A31 y29.1.f2.length c32) y29.1.f2, Blk b28 [.int .i64 y23.1.f0, .int .i64 y23.1.f1, .slice A25 y23.1.f2.length c26] 24]) [4, 5, 6, 7, 8] 9 rfl rfl rfl) ?_
                  obtain ⟨y409, hy410, h⟩ := bind_no h
                  refine TA.eff 35 rfl (by kernel_rfl) rfl (TL.callV (Lin := []) (args := [.agg #[.int .i64 y23.1.f0, .int .i64 y23.1.f1, .slice A25 y23.1.f2.length c26]]) (Wt.yes rfl rfl rfl hk408) rfl rfl hbd20 rfl rfl (types_Scalar.calls (a0 := y23.1) (rd339.up (Gd.le.trans (Gd.le.trans (Gd.le.trans e347 e362) e381) e398)) le340 hy410) rfl ?_)
                  rintro _ _ _ _ ⟨rfl, rfl, rfl⟩
                  refine TA.next (fun W hO => (hb349 _ _ (hb364 _ _ (hb383 _ _ (hb400 _ _ hO)))).selT (Ls := [Row k24 24 (.slice A3 y1.f2.length c4) y1.f2, Row k36 36 (.slice (some ⟨b14, 0, none⟩) 1 1) ([(⟨5, (⟨#[]⟩ : ByteArray), 0, ([] : List S36)⟩ : S36)] : List S36), Blk b34 [.int .i64 y29.1.f0, .int .i64 y29.1.f1, .slice A31 y29.1.f2.length c32] 24, Row k24 24 (.slice A31 y29.1.f2.length c32) y29.1.f2, Blk b28 [.int .i64 y23.1.f0, .int .i64 y23.1.f1, .slice A25 y23.1.f2.length c26] 24]) [4, 5, 6, 7, 8] 9 rfl rfl rfl) ?_
                  refine TA.take 36 rfl (by kernel_rfl) rfl (PQ.then_ PQ.body) rfl (Val.pickY rfl hk408 rfl) (fun W hO => (hb349 _ _ (hb364 _ _ (hb383 _ _ (hb400 _ _ hO)))).selT (Ls := [Row k24 24 (.slice A3 y1.f2.length c4) y1.f2, Row k36 36 (.slice (some ⟨b14, 0, none⟩) 1 1) ([(⟨5, (⟨#[]⟩ : ByteArray), 0, ([] : List S36)⟩ : S36)] : List S36), Blk b34 [.int .i64 y29.1.f0, .int .i64 y29.1.f1, .slice A31 y29.1.f2.length c32] 24, Row k24 24 (.slice A31 y29.1.f2.length c32) y29.1.f2, Blk b28 [.int .i64 y23.1.f0, .int .i64 y23.1.f1, .slice A25 y23.1.f2.length c26] 24]) [4, 5, 6, 7, 8] 9 rfl rfl rfl) ?_
                  refine TA.take 37 rfl (by kernel_rfl) rfl (PQ.then_ PQ.body) rfl (Val.move rfl) (fun W hO => (hb349 _ _ (hb364 _ _ (hb383 _ _ (hb400 _ _ hO)))).selT (Ls := [Row k24 24 (.slice A3 y1.f2.length c4) y1.f2, Row k36 36 (.slice (some ⟨b14, 0, none⟩) 1 1) ([(⟨5, (⟨#[]⟩ : ByteArray), 0, ([] : List S36)⟩ : S36)] : List S36), Blk b34 [.int .i64 y29.1.f0, .int .i64 y29.1.f1, .slice A31 y29.1.f2.length c32] 24, Row k24 24 (.slice A31 y29.1.f2.length c32) y29.1.f2, Blk b28 [.int .i64 y23.1.f0, .int .i64 y23.1.f1, .slice A25 y23.1.f2.length c26] 24]) [4, 5, 6, 7, 8] 9 rfl rfl rfl) ?_
                  refine TK.split (p := y409 = true) h (fun hg411 h => ?_) (fun hg411 h => ?_)
                  · have hk412 : y409 = true := hg411
                    obtain ⟨y413, hy414, h⟩ := bind_no h
                    refine TA.eff 38 rfl (by kernel_rfl) rfl (TL.callV (Lin := []) (args := []) (Wt.yes rfl rfl rfl hk412) rfl rfl hbd27 rfl rfl (swagelaw11_some.calls hy414) rfl ?_)
                    rintro _ _ _ _ ⟨rfl, A415, c416, rfl, rfl⟩
                    refine TA.next (fun W hO => (hb349 _ _ (hb364 _ _ (hb383 _ _ (hb400 _ _ hO)))).selT (Ls := [Row k24 24 (.slice A3 y1.f2.length c4) y1.f2, Row k36 36 (.slice (some ⟨b14, 0, none⟩) 1 1) ([(⟨5, (⟨#[]⟩ : ByteArray), 0, ([] : List S36)⟩ : S36)] : List S36), Blk b34 [.int .i64 y29.1.f0, .int .i64 y29.1.f1, .slice A31 y29.1.f2.length c32] 24, Row k24 24 (.slice A31 y29.1.f2.length c32) y29.1.f2, Blk b28 [.int .i64 y23.1.f0, .int .i64 y23.1.f1, .slice A25 y23.1.f2.length c26] 24]) [5, 6, 7, 8, 9] 10 rfl rfl rfl) ?_
                    refine TK.share (fun G418 e419 hs420 hb421 => ?_)
                    have rd422 : Rd G418 k24 A415 y413.f2 := Rd.row hs420
                    have le423 : y413.f2.length ≤ c416 := Row.le hs420
                    obtain ⟨y424, hy425, h⟩ := bind_no h
                    refine TA.eff 39 rfl (by kernel_rfl) rfl (TL.callV (Lin := []) (args := [.agg #[.int .i64 y413.f0, .int .i64 y413.f1, .slice A415 y413.f2.length c416]]) (Wt.yes rfl rfl rfl hk412) rfl rfl hbd20 rfl rfl (types_Scalar.calls (a0 := y413) rd422 le423 hy425) rfl ?_)
                    rintro _ _ _ _ ⟨rfl, rfl, rfl⟩
                    refine TA.next (fun W hO => (hb349 _ _ (hb364 _ _ (hb383 _ _ (hb400 _ _ (hb421 _ _ hO))))).selT (Ls := [Row k24 24 (.slice A3 y1.f2.length c4) y1.f2, Row k36 36 (.slice (some ⟨b14, 0, none⟩) 1 1) ([(⟨5, (⟨#[]⟩ : ByteArray), 0, ([] : List S36)⟩ : S36)] : List S36), Blk b34 [.int .i64 y29.1.f0, .int .i64 y29.1.f1, .slice A31 y29.1.f2.length c32] 24, Row k24 24 (.slice A31 y29.1.f2.length c32) y29.1.f2, Blk b28 [.int .i64 y23.1.f0, .int .i64 y23.1.f1, .slice A25 y23.1.f2.length c26] 24]) [5, 6, 7, 8, 9] 10 rfl rfl rfl) ?_
                    refine TA.take 40 rfl (by kernel_rfl) rfl (PQ.then_ PQ.body) (Wt.yes rfl rfl rfl hk412) (Val.not_ rfl) (fun W hO => (hb349 _ _ (hb364 _ _ (hb383 _ _ (hb400 _ _ (hb421 _ _ hO))))).selT (Ls := [Row k24 24 (.slice A3 y1.f2.length c4) y1.f2, Row k36 36 (.slice (some ⟨b14, 0, none⟩) 1 1) ([(⟨5, (⟨#[]⟩ : ByteArray), 0, ([] : List S36)⟩ : S36)] : List S36), Blk b34 [.int .i64 y29.1.f0, .int .i64 y29.1.f1, .slice A31 y29.1.f2.length c32] 24, Row k24 24 (.slice A31 y29.1.f2.length c32) y29.1.f2, Blk b28 [.int .i64 y23.1.f0, .int .i64 y23.1.f1, .slice A25 y23.1.f2.length c26] 24]) [5, 6, 7, 8, 9] 10 rfl rfl rfl) ?_
                    refine TA.take 41 rfl (by kernel_rfl) rfl (PQ.then_ PQ.body) rfl (Val.pickY rfl hk412 rfl) (fun W hO => (hb349 _ _ (hb364 _ _ (hb383 _ _ (hb400 _ _ (hb421 _ _ hO))))).selT (Ls := [Row k24 24 (.slice A3 y1.f2.length c4) y1.f2, Row k36 36 (.slice (some ⟨b14, 0, none⟩) 1 1) ([(⟨5, (⟨#[]⟩ : ByteArray), 0, ([] : List S36)⟩ : S36)] : List S36), Blk b34 [.int .i64 y29.1.f0, .int .i64 y29.1.f1, .slice A31 y29.1.f2.length c32] 24, Row k24 24 (.slice A31 y29.1.f2.length c32) y29.1.f2, Blk b28 [.int .i64 y23.1.f0, .int .i64 y23.1.f1, .slice A25 y23.1.f2.length c26] 24]) [5, 6, 7, 8, 9] 10 rfl rfl rfl) ?_
                    refine TA.take 42 rfl (by kernel_rfl) rfl (PQ.then_ PQ.body) rfl (Val.assign rfl) (fun W hO => (hb349 _ _ (hb364 _ _ (hb383 _ _ (hb400 _ _ (hb421 _ _ hO))))).selT (Ls := [Row k24 24 (.slice A3 y1.f2.length c4) y1.f2, Row k36 36 (.slice (some ⟨b14, 0, none⟩) 1 1) ([(⟨5, (⟨#[]⟩ : ByteArray), 0, ([] : List S36)⟩ : S36)] : List S36), Blk b34 [.int .i64 y29.1.f0, .int .i64 y29.1.f1, .slice A31 y29.1.f2.length c32] 24, Row k24 24 (.slice A31 y29.1.f2.length c32) y29.1.f2, Blk b28 [.int .i64 y23.1.f0, .int .i64 y23.1.f1, .slice A25 y23.1.f2.length c26] 24]) [5, 6, 7, 8, 9] 10 rfl rfl rfl) ?_
                    refine TA.done (by kernel_rfl) ?_
                    refine TQ.then_ ?_
                    refine TC.ret ?_
                    refine TQ.back hb421 ?_
                    refine TQ.back hb400 ?_
                    refine TQ.back hb383 ?_
                    refine TQ.back hb364 ?_
                    refine TQ.back hb349 ?_
                    refine TQ.back hb338 ?_
                    obtain rfl := Option.some.inj h
                    exact TQ.fin (.inl rfl) rfl Tryd.results7 (.tmp rfl .nil) rfl (FRel.mk (Ls := []) [] 11 (Gd.le.refl _) rfl rfl rfl ⟨rfl, rfl, rfl⟩)
                  · have hk426 : y409 = false := (by simpa using hg411)
                    refine TA.not 38 rfl (by kernel_rfl) rfl (PQ.then_ PQ.body) (Wt.no rfl rfl rfl hk426) (fun W hO => (hb349 _ _ (hb364 _ _ (hb383 _ _ (hb400 _ _ hO)))).selT (Ls := [Row k24 24 (.slice A3 y1.f2.length c4) y1.f2, Row k36 36 (.slice (some ⟨b14, 0, none⟩) 1 1) ([(⟨5, (⟨#[]⟩ : ByteArray), 0, ([] : List S36)⟩ : S36)] : List S36), Blk b34 [.int .i64 y29.1.f0, .int .i64 y29.1.f1, .slice A31 y29.1.f2.length c32] 24, Row k24 24 (.slice A31 y29.1.f2.length c32) y29.1.f2, Blk b28 [.int .i64 y23.1.f0, .int .i64 y23.1.f1, .slice A25 y23.1.f2.length c26] 24]) [4, 5, 6, 7, 8] 9 rfl rfl rfl) ?_
                    refine TA.not 39 rfl (by kernel_rfl) rfl (PQ.then_ PQ.body) (Wt.no rfl rfl rfl hk426) (fun W hO => (hb349 _ _ (hb364 _ _ (hb383 _ _ (hb400 _ _ hO)))).selT (Ls := [Row k24 24 (.slice A3 y1.f2.length c4) y1.f2, Row k36 36 (.slice (some ⟨b14, 0, none⟩) 1 1) ([(⟨5, (⟨#[]⟩ : ByteArray), 0, ([] : List S36)⟩ : S36)] : List S36), Blk b34 [.int .i64 y29.1.f0, .int .i64 y29.1.f1, .slice A31 y29.1.f2.length c32] 24, Row k24 24 (.slice A31 y29.1.f2.length c32) y29.1.f2, Blk b28 [.int .i64 y23.1.f0, .int .i64 y23.1.f1, .slice A25 y23.1.f2.length c26] 24]) [4, 5, 6, 7, 8] 9 rfl rfl rfl) ?_
                    refine TA.not 40 rfl (by kernel_rfl) rfl (PQ.then_ PQ.body) (Wt.no rfl rfl rfl hk426) (fun W hO => (hb349 _ _ (hb364 _ _ (hb383 _ _ (hb400 _ _ hO)))).selT (Ls := [Row k24 24 (.slice A3 y1.f2.length c4) y1.f2, Row k36 36 (.slice (some ⟨b14, 0, none⟩) 1 1) ([(⟨5, (⟨#[]⟩ : ByteArray), 0, ([] : List S36)⟩ : S36)] : List S36), Blk b34 [.int .i64 y29.1.f0, .int .i64 y29.1.f1, .slice A31 y29.1.f2.length c32] 24, Row k24 24 (.slice A31 y29.1.f2.length c32) y29.1.f2, Blk b28 [.int .i64 y23.1.f0, .int .i64 y23.1.f1, .slice A25 y23.1.f2.length c26] 24]) [4, 5, 6, 7, 8] 9 rfl rfl rfl) ?_
                    refine TA.take 41 rfl (by kernel_rfl) rfl (PQ.then_ PQ.body) rfl (Val.pickN rfl hk426 rfl) (fun W hO => (hb349 _ _ (hb364 _ _ (hb383 _ _ (hb400 _ _ hO)))).selT (Ls := [Row k24 24 (.slice A3 y1.f2.length c4) y1.f2, Row k36 36 (.slice (some ⟨b14, 0, none⟩) 1 1) ([(⟨5, (⟨#[]⟩ : ByteArray), 0, ([] : List S36)⟩ : S36)] : List S36), Blk b34 [.int .i64 y29.1.f0, .int .i64 y29.1.f1, .slice A31 y29.1.f2.length c32] 24, Row k24 24 (.slice A31 y29.1.f2.length c32) y29.1.f2, Blk b28 [.int .i64 y23.1.f0, .int .i64 y23.1.f1, .slice A25 y23.1.f2.length c26] 24]) [4, 5, 6, 7, 8] 9 rfl rfl rfl) ?_
                    refine TA.take 42 rfl (by kernel_rfl) rfl (PQ.then_ PQ.body) rfl (Val.assign rfl) (fun W hO => (hb349 _ _ (hb364 _ _ (hb383 _ _ (hb400 _ _ hO)))).selT (Ls := [Row k24 24 (.slice A3 y1.f2.length c4) y1.f2, Row k36 36 (.slice (some ⟨b14, 0, none⟩) 1 1) ([(⟨5, (⟨#[]⟩ : ByteArray), 0, ([] : List S36)⟩ : S36)] : List S36), Blk b34 [.int .i64 y29.1.f0, .int .i64 y29.1.f1, .slice A31 y29.1.f2.length c32] 24, Row k24 24 (.slice A31 y29.1.f2.length c32) y29.1.f2, Blk b28 [.int .i64 y23.1.f0, .int .i64 y23.1.f1, .slice A25 y23.1.f2.length c26] 24]) [4, 5, 6, 7, 8] 9 rfl rfl rfl) ?_
                    refine TA.done (by kernel_rfl) ?_
                    refine TQ.then_ ?_
                    refine TC.ret ?_
                    refine TQ.back hb400 ?_
                    refine TQ.back hb383 ?_
                    refine TQ.back hb364 ?_
                    refine TQ.back hb349 ?_
                    refine TQ.back hb338 ?_
                    obtain rfl := Option.some.inj h
                    exact TQ.fin (.inl rfl) rfl Tryd.results7 (.tmp rfl .nil) rfl (FRel.mk (Ls := []) [] 10 (Gd.le.refl _) rfl rfl rfl ⟨rfl, rfl, rfl⟩)
                · have hk427 : decide (y29.2 = 1) = false := decide_eq_false hg407
                  refine TA.not 34 rfl (by kernel_rfl) rfl (PQ.then_ PQ.body) (Wt.no rfl rfl rfl hk427) (fun W hO => (hb349 _ _ (hb364 _ _ (hb383 _ _ (hb400 _ _ hO)))).selT (Ls := [Row k24 24 (.slice A3 y1.f2.length c4) y1.f2, Row k36 36 (.slice (some ⟨b14, 0, none⟩) 1 1) ([(⟨5, (⟨#[]⟩ : ByteArray), 0, ([] : List S36)⟩ : S36)] : List S36), Blk b34 [.int .i64 y29.1.f0, .int .i64 y29.1.f1, .slice A31 y29.1.f2.length c32] 24, Row k24 24 (.slice A31 y29.1.f2.length c32) y29.1.f2, Blk b28 [.int .i64 y23.1.f0, .int .i64 y23.1.f1, .slice A25 y23.1.f2.length c26] 24]) [4, 5, 6, 7, 8] 9 rfl rfl rfl) ?_
                  refine TA.not 35 rfl (by kernel_rfl) rfl (PQ.then_ PQ.body) (Wt.no rfl rfl rfl hk427) (fun W hO => (hb349 _ _ (hb364 _ _ (hb383 _ _ (hb400 _ _ hO)))).selT (Ls := [Row k24 24 (.slice A3 y1.f2.length c4) y1.f2, Row k36 36 (.slice (some ⟨b14, 0, none⟩) 1 1) ([(⟨5, (⟨#[]⟩ : ByteArray), 0, ([] : List S36)⟩ : S36)] : List S36), Blk b34 [.int .i64 y29.1.f0, .int .i64 y29.1.f1, .slice A31 y29.1.f2.length c32] 24, Row k24 24 (.slice A31 y29.1.f2.length c32) y29.1.f2, Blk b28 [.int .i64 y23.1.f0, .int .i64 y23.1.f1, .slice A25 y23.1.f2.length c26] 24]) [4, 5, 6, 7, 8] 9 rfl rfl rfl) ?_
                  refine TA.take 36 rfl (by kernel_rfl) rfl (PQ.then_ PQ.body) rfl (Val.pickN rfl hk427 rfl) (fun W hO => (hb349 _ _ (hb364 _ _ (hb383 _ _ (hb400 _ _ hO)))).selT (Ls := [Row k24 24 (.slice A3 y1.f2.length c4) y1.f2, Row k36 36 (.slice (some ⟨b14, 0, none⟩) 1 1) ([(⟨5, (⟨#[]⟩ : ByteArray), 0, ([] : List S36)⟩ : S36)] : List S36), Blk b34 [.int .i64 y29.1.f0, .int .i64 y29.1.f1, .slice A31 y29.1.f2.length c32] 24, Row k24 24 (.slice A31 y29.1.f2.length c32) y29.1.f2, Blk b28 [.int .i64 y23.1.f0, .int .i64 y23.1.f1, .slice A25 y23.1.f2.length c26] 24]) [4, 5, 6, 7, 8] 9 rfl rfl rfl) ?_
                  refine TA.take 37 rfl (by kernel_rfl) rfl (PQ.then_ PQ.body) rfl (Val.move rfl) (fun W hO => (hb349 _ _ (hb364 _ _ (hb383 _ _ (hb400 _ _ hO)))).selT (Ls := [Row k24 24 (.slice A3 y1.f2.length c4) y1.f2, Row k36 36 (.slice (some ⟨b14, 0, none⟩) 1 1) ([(⟨5, (⟨#[]⟩ : ByteArray), 0, ([] : List S36)⟩ : S36)] : List S36), Blk b34 [.int .i64 y29.1.f0, .int .i64 y29.1.f1, .slice A31 y29.1.f2.length c32] 24, Row k24 24 (.slice A31 y29.1.f2.length c32) y29.1.f2, Blk b28 [.int .i64 y23.1.f0, .int .i64 y23.1.f1, .slice A25 y23.1.f2.length c26] 24]) [4, 5, 6, 7, 8] 9 rfl rfl rfl) ?_
                  refine TA.not 38 rfl (by kernel_rfl) rfl (PQ.then_ PQ.body) (Wt.no rfl rfl rfl rfl) (fun W hO => (hb349 _ _ (hb364 _ _ (hb383 _ _ (hb400 _ _ hO)))).selT (Ls := [Row k24 24 (.slice A3 y1.f2.length c4) y1.f2, Row k36 36 (.slice (some ⟨b14, 0, none⟩) 1 1) ([(⟨5, (⟨#[]⟩ : ByteArray), 0, ([] : List S36)⟩ : S36)] : List S36), Blk b34 [.int .i64 y29.1.f0, .int .i64 y29.1.f1, .slice A31 y29.1.f2.length c32] 24, Row k24 24 (.slice A31 y29.1.f2.length c32) y29.1.f2, Blk b28 [.int .i64 y23.1.f0, .int .i64 y23.1.f1, .slice A25 y23.1.f2.length c26] 24]) [4, 5, 6, 7, 8] 9 rfl rfl rfl) ?_
                  refine TA.not 39 rfl (by kernel_rfl) rfl (PQ.then_ PQ.body) (Wt.no rfl rfl rfl rfl) (fun W hO => (hb349 _ _ (hb364 _ _ (hb383 _ _ (hb400 _ _ hO)))).selT (Ls := [Row k24 24 (.slice A3 y1.f2.length c4) y1.f2, Row k36 36 (.slice (some ⟨b14, 0, none⟩) 1 1) ([(⟨5, (⟨#[]⟩ : ByteArray), 0, ([] : List S36)⟩ : S36)] : List S36), Blk b34 [.int .i64 y29.1.f0, .int .i64 y29.1.f1, .slice A31 y29.1.f2.length c32] 24, Row k24 24 (.slice A31 y29.1.f2.length c32) y29.1.f2, Blk b28 [.int .i64 y23.1.f0, .int .i64 y23.1.f1, .slice A25 y23.1.f2.length c26] 24]) [4, 5, 6, 7, 8] 9 rfl rfl rfl) ?_
                  refine TA.not 40 rfl (by kernel_rfl) rfl (PQ.then_ PQ.body) (Wt.no rfl rfl rfl rfl) (fun W hO => (hb349 _ _ (hb364 _ _ (hb383 _ _ (hb400 _ _ hO)))).selT (Ls := [Row k24 24 (.slice A3 y1.f2.length c4) y1.f2, Row k36 36 (.slice (some ⟨b14, 0, none⟩) 1 1) ([(⟨5, (⟨#[]⟩ : ByteArray), 0, ([] : List S36)⟩ : S36)] : List S36), Blk b34 [.int .i64 y29.1.f0, .int .i64 y29.1.f1, .slice A31 y29.1.f2.length c32] 24, Row k24 24 (.slice A31 y29.1.f2.length c32) y29.1.f2, Blk b28 [.int .i64 y23.1.f0, .int .i64 y23.1.f1, .slice A25 y23.1.f2.length c26] 24]) [4, 5, 6, 7, 8] 9 rfl rfl rfl) ?_
                  refine TA.take 41 rfl (by kernel_rfl) rfl (PQ.then_ PQ.body) rfl (Val.pickN rfl rfl rfl) (fun W hO => (hb349 _ _ (hb364 _ _ (hb383 _ _ (hb400 _ _ hO)))).selT (Ls := [Row k24 24 (.slice A3 y1.f2.length c4) y1.f2, Row k36 36 (.slice (some ⟨b14, 0, none⟩) 1 1) ([(⟨5, (⟨#[]⟩ : ByteArray), 0, ([] : List S36)⟩ : S36)] : List S36), Blk b34 [.int .i64 y29.1.f0, .int .i64 y29.1.f1, .slice A31 y29.1.f2.length c32] 24, Row k24 24 (.slice A31 y29.1.f2.length c32) y29.1.f2, Blk b28 [.int .i64 y23.1.f0, .int .i64 y23.1.f1, .slice A25 y23.1.f2.length c26] 24]) [4, 5, 6, 7, 8] 9 rfl rfl rfl) ?_
                  refine TA.take 42 rfl (by kernel_rfl) rfl (PQ.then_ PQ.body) rfl (Val.assign rfl) (fun W hO => (hb349 _ _ (hb364 _ _ (hb383 _ _ (hb400 _ _ hO)))).selT (Ls := [Row k24 24 (.slice A3 y1.f2.length c4) y1.f2, Row k36 36 (.slice (some ⟨b14, 0, none⟩) 1 1) ([(⟨5, (⟨#[]⟩ : ByteArray), 0, ([] : List S36)⟩ : S36)] : List S36), Blk b34 [.int .i64 y29.1.f0, .int .i64 y29.1.f1, .slice A31 y29.1.f2.length c32] 24, Row k24 24 (.slice A31 y29.1.f2.length c32) y29.1.f2, Blk b28 [.int .i64 y23.1.f0, .int .i64 y23.1.f1, .slice A25 y23.1.f2.length c26] 24]) [4, 5, 6, 7, 8] 9 rfl rfl rfl) ?_
                  refine TA.done (by kernel_rfl) ?_
                  refine TQ.then_ ?_
                  refine TC.ret ?_
                  refine TQ.back hb400 ?_
                  refine TQ.back hb383 ?_
                  refine TQ.back hb364 ?_
                  refine TQ.back hb349 ?_
                  refine TQ.back hb338 ?_
                  obtain rfl := Option.some.inj h
                  exact TQ.fin (.inl rfl) rfl Tryd.results7 (.tmp rfl .nil) rfl (FRel.mk (Ls := []) [] 10 (Gd.le.refl _) rfl rfl rfl ⟨rfl, rfl, rfl⟩)
              · have hk428 : y403 = false := (by simpa using hg405)
                refine TA.not 30 rfl (by kernel_rfl) rfl (PQ.then_ PQ.body) (Wt.no rfl rfl rfl hk428) (fun W hO => (hb349 _ _ (hb364 _ _ (hb383 _ _ (hb400 _ _ hO)))).selT (Ls := [Row k24 24 (.slice A3 y1.f2.length c4) y1.f2, Row k36 36 (.slice (some ⟨b14, 0, none⟩) 1 1) ([(⟨5, (⟨#[]⟩ : ByteArray), 0, ([] : List S36)⟩ : S36)] : List S36), Blk b34 [.int .i64 y29.1.f0, .int .i64 y29.1.f1, .slice A31 y29.1.f2.length c32] 24, Row k24 24 (.slice A31 y29.1.f2.length c32) y29.1.f2, Blk b28 [.int .i64 y23.1.f0, .int .i64 y23.1.f1, .slice A25 y23.1.f2.length c26] 24]) [4, 5, 6, 7, 8] 9 rfl rfl rfl) ?_
                refine TA.not 31 rfl (by kernel_rfl) rfl (PQ.then_ PQ.body) (Wt.no rfl rfl rfl hk428) (fun W hO => (hb349 _ _ (hb364 _ _ (hb383 _ _ (hb400 _ _ hO)))).selT (Ls := [Row k24 24 (.slice A3 y1.f2.length c4) y1.f2, Row k36 36 (.slice (some ⟨b14, 0, none⟩) 1 1) ([(⟨5, (⟨#[]⟩ : ByteArray), 0, ([] : List S36)⟩ : S36)] : List S36), Blk b34 [.int .i64 y29.1.f0, .int .i64 y29.1.f1, .slice A31 y29.1.f2.length c32] 24, Row k24 24 (.slice A31 y29.1.f2.length c32) y29.1.f2, Blk b28 [.int .i64 y23.1.f0, .int .i64 y23.1.f1, .slice A25 y23.1.f2.length c26] 24]) [4, 5, 6, 7, 8] 9 rfl rfl rfl) ?_
                refine TA.take 32 rfl (by kernel_rfl) rfl (PQ.then_ PQ.body) rfl (Val.pickN rfl hk428 rfl) (fun W hO => (hb349 _ _ (hb364 _ _ (hb383 _ _ (hb400 _ _ hO)))).selT (Ls := [Row k24 24 (.slice A3 y1.f2.length c4) y1.f2, Row k36 36 (.slice (some ⟨b14, 0, none⟩) 1 1) ([(⟨5, (⟨#[]⟩ : ByteArray), 0, ([] : List S36)⟩ : S36)] : List S36), Blk b34 [.int .i64 y29.1.f0, .int .i64 y29.1.f1, .slice A31 y29.1.f2.length c32] 24, Row k24 24 (.slice A31 y29.1.f2.length c32) y29.1.f2, Blk b28 [.int .i64 y23.1.f0, .int .i64 y23.1.f1, .slice A25 y23.1.f2.length c26] 24]) [4, 5, 6, 7, 8] 9 rfl rfl rfl) ?_
                refine TA.take 33 rfl (by kernel_rfl) rfl (PQ.then_ PQ.body) rfl (Val.move rfl) (fun W hO => (hb349 _ _ (hb364 _ _ (hb383 _ _ (hb400 _ _ hO)))).selT (Ls := [Row k24 24 (.slice A3 y1.f2.length c4) y1.f2, Row k36 36 (.slice (some ⟨b14, 0, none⟩) 1 1) ([(⟨5, (⟨#[]⟩ : ByteArray), 0, ([] : List S36)⟩ : S36)] : List S36), Blk b34 [.int .i64 y29.1.f0, .int .i64 y29.1.f1, .slice A31 y29.1.f2.length c32] 24, Row k24 24 (.slice A31 y29.1.f2.length c32) y29.1.f2, Blk b28 [.int .i64 y23.1.f0, .int .i64 y23.1.f1, .slice A25 y23.1.f2.length c26] 24]) [4, 5, 6, 7, 8] 9 rfl rfl rfl) ?_
                refine TA.not 34 rfl (by kernel_rfl) rfl (PQ.then_ PQ.body) (Wt.no rfl rfl rfl rfl) (fun W hO => (hb349 _ _ (hb364 _ _ (hb383 _ _ (hb400 _ _ hO)))).selT (Ls := [Row k24 24 (.slice A3 y1.f2.length c4) y1.f2, Row k36 36 (.slice (some ⟨b14, 0, none⟩) 1 1) ([(⟨5, (⟨#[]⟩ : ByteArray), 0, ([] : List S36)⟩ : S36)] : List S36), Blk b34 [.int .i64 y29.1.f0, .int .i64 y29.1.f1, .slice A31 y29.1.f2.length c32] 24, Row k24 24 (.slice A31 y29.1.f2.length c32) y29.1.f2, Blk b28 [.int .i64 y23.1.f0, .int .i64 y23.1.f1, .slice A25 y23.1.f2.length c26] 24]) [4, 5, 6, 7, 8] 9 rfl rfl rfl) ?_
                refine TA.not 35 rfl (by kernel_rfl) rfl (PQ.then_ PQ.body) (Wt.no rfl rfl rfl rfl) (fun W hO => (hb349 _ _ (hb364 _ _ (hb383 _ _ (hb400 _ _ hO)))).selT (Ls := [Row k24 24 (.slice A3 y1.f2.length c4) y1.f2, Row k36 36 (.slice (some ⟨b14, 0, none⟩) 1 1) ([(⟨5, (⟨#[]⟩ : ByteArray), 0, ([] : List S36)⟩ : S36)] : List S36), Blk b34 [.int .i64 y29.1.f0, .int .i64 y29.1.f1, .slice A31 y29.1.f2.length c32] 24, Row k24 24 (.slice A31 y29.1.f2.length c32) y29.1.f2, Blk b28 [.int .i64 y23.1.f0, .int .i64 y23.1.f1, .slice A25 y23.1.f2.length c26] 24]) [4, 5, 6, 7, 8] 9 rfl rfl rfl) ?_
                refine TA.take 36 rfl (by kernel_rfl) rfl (PQ.then_ PQ.body) rfl (Val.pickN rfl rfl rfl) (fun W hO => (hb349 _ _ (hb364 _ _ (hb383 _ _ (hb400 _ _ hO)))).selT (Ls := [Row k24 24 (.slice A3 y1.f2.length c4) y1.f2, Row k36 36 (.slice (some ⟨b14, 0, none⟩) 1 1) ([(⟨5, (⟨#[]⟩ : ByteArray), 0, ([] : List S36)⟩ : S36)] : List S36), Blk b34 [.int .i64 y29.1.f0, .int .i64 y29.1.f1, .slice A31 y29.1.f2.length c32] 24, Row k24 24 (.slice A31 y29.1.f2.length c32) y29.1.f2, Blk b28 [.int .i64 y23.1.f0, .int .i64 y23.1.f1, .slice A25 y23.1.f2.length c26] 24]) [4, 5, 6, 7, 8] 9 rfl rfl rfl) ?_
                refine TA.take 37 rfl (by kernel_rfl) rfl (PQ.then_ PQ.body) rfl (Val.move rfl) (fun W hO => (hb349 _ _ (hb364 _ _ (hb383 _ _ (hb400 _ _ hO)))).selT (Ls := [Row k24 24 (.slice A3 y1.f2.length c4) y1.f2, Row k36 36 (.slice (some ⟨b14, 0, none⟩) 1 1) ([(⟨5, (⟨#[]⟩ : ByteArray), 0, ([] : List S36)⟩ : S36)] : List S36), Blk b34 [.int .i64 y29.1.f0, .int .i64 y29.1.f1, .slice A31 y29.1.f2.length c32] 24, Row k24 24 (.slice A31 y29.1.f2.length c32) y29.1.f2, Blk b28 [.int .i64 y23.1.f0, .int .i64 y23.1.f1, .slice A25 y23.1.f2.length c26] 24]) [4, 5, 6, 7, 8] 9 rfl rfl rfl) ?_
                refine TA.not 38 rfl (by kernel_rfl) rfl (PQ.then_ PQ.body) (Wt.no rfl rfl rfl rfl) (fun W hO => (hb349 _ _ (hb364 _ _ (hb383 _ _ (hb400 _ _ hO)))).selT (Ls := [Row k24 24 (.slice A3 y1.f2.length c4) y1.f2, Row k36 36 (.slice (some ⟨b14, 0, none⟩) 1 1) ([(⟨5, (⟨#[]⟩ : ByteArray), 0, ([] : List S36)⟩ : S36)] : List S36), Blk b34 [.int .i64 y29.1.f0, .int .i64 y29.1.f1, .slice A31 y29.1.f2.length c32] 24, Row k24 24 (.slice A31 y29.1.f2.length c32) y29.1.f2, Blk b28 [.int .i64 y23.1.f0, .int .i64 y23.1.f1, .slice A25 y23.1.f2.length c26] 24]) [4, 5, 6, 7, 8] 9 rfl rfl rfl) ?_
                refine TA.not 39 rfl (by kernel_rfl) rfl (PQ.then_ PQ.body) (Wt.no rfl rfl rfl rfl) (fun W hO => (hb349 _ _ (hb364 _ _ (hb383 _ _ (hb400 _ _ hO)))).selT (Ls := [Row k24 24 (.slice A3 y1.f2.length c4) y1.f2, Row k36 36 (.slice (some ⟨b14, 0, none⟩) 1 1) ([(⟨5, (⟨#[]⟩ : ByteArray), 0, ([] : List S36)⟩ : S36)] : List S36), Blk b34 [.int .i64 y29.1.f0, .int .i64 y29.1.f1, .slice A31 y29.1.f2.length c32] 24, Row k24 24 (.slice A31 y29.1.f2.length c32) y29.1.f2, Blk b28 [.int .i64 y23.1.f0, .int .i64 y23.1.f1, .slice A25 y23.1.f2.length c26] 24]) [4, 5, 6, 7, 8] 9 rfl rfl rfl) ?_
                refine TA.not 40 rfl (by kernel_rfl) rfl (PQ.then_ PQ.body) (Wt.no rfl rfl rfl rfl) (fun W hO => (hb349 _ _ (hb364 _ _ (hb383 _ _ (hb400 _ _ hO)))).selT (Ls := [Row k24 24 (.slice A3 y1.f2.length c4) y1.f2, Row k36 36 (.slice (some ⟨b14, 0, none⟩) 1 1) ([(⟨5, (⟨#[]⟩ : ByteArray), 0, ([] : List S36)⟩ : S36)] : List S36), Blk b34 [.int .i64 y29.1.f0, .int .i64 y29.1.f1, .slice A31 y29.1.f2.length c32] 24, Row k24 24 (.slice A31 y29.1.f2.length c32) y29.1.f2, Blk b28 [.int .i64 y23.1.f0, .int .i64 y23.1.f1, .slice A25 y23.1.f2.length c26] 24]) [4, 5, 6, 7, 8] 9 rfl rfl rfl) ?_
                refine TA.take 41 rfl (by kernel_rfl) rfl (PQ.then_ PQ.body) rfl (Val.pickN rfl rfl rfl) (fun W hO => (hb349 _ _ (hb364 _ _ (hb383 _ _ (hb400 _ _ hO)))).selT (Ls := [Row k24 24 (.slice A3 y1.f2.length c4) y1.f2, Row k36 36 (.slice (some ⟨b14, 0, none⟩) 1 1) ([(⟨5, (⟨#[]⟩ : ByteArray), 0, ([] : List S36)⟩ : S36)] : List S36), Blk b34 [.int .i64 y29.1.f0, .int .i64 y29.1.f1, .slice A31 y29.1.f2.length c32] 24, Row k24 24 (.slice A31 y29.1.f2.length c32) y29.1.f2, Blk b28 [.int .i64 y23.1.f0, .int .i64 y23.1.f1, .slice A25 y23.1.f2.length c26] 24]) [4, 5, 6, 7, 8] 9 rfl rfl rfl) ?_
                refine TA.take 42 rfl (by kernel_rfl) rfl (PQ.then_ PQ.body) rfl (Val.assign rfl) (fun W hO => (hb349 _ _ (hb364 _ _ (hb383 _ _ (hb400 _ _ hO)))).selT (Ls := [Row k24 24 (.slice A3 y1.f2.length c4) y1.f2, Row k36 36 (.slice (some ⟨b14, 0, none⟩) 1 1) ([(⟨5, (⟨#[]⟩ : ByteArray), 0, ([] : List S36)⟩ : S36)] : List S36), Blk b34 [.int .i64 y29.1.f0, .int .i64 y29.1.f1, .slice A31 y29.1.f2.length c32] 24, Row k24 24 (.slice A31 y29.1.f2.length c32) y29.1.f2, Blk b28 [.int .i64 y23.1.f0, .int .i64 y23.1.f1, .slice A25 y23.1.f2.length c26] 24]) [4, 5, 6, 7, 8] 9 rfl rfl rfl) ?_
                refine TA.done (by kernel_rfl) ?_
                refine TQ.then_ ?_
                refine TC.ret ?_
                refine TQ.back hb400 ?_
                refine TQ.back hb383 ?_
                refine TQ.back hb364 ?_
                refine TQ.back hb349 ?_
                refine TQ.back hb338 ?_
                obtain rfl := Option.some.inj h
                exact TQ.fin (.inl rfl) rfl Tryd.results7 (.tmp rfl .nil) rfl (FRel.mk (Ls := []) [] 10 (Gd.le.refl _) rfl rfl rfl ⟨rfl, rfl, rfl⟩)
            · have hk429 : decide (y23.2 = 0) = false := decide_eq_false hg390
              refine TA.not 24 rfl (by kernel_rfl) rfl (PQ.then_ PQ.body) (Wt.no rfl rfl rfl hk429) (fun W hO => (hb349 _ _ (hb364 _ _ (hb383 _ _ hO))).selT (Ls := [Row k24 24 (.slice A3 y1.f2.length c4) y1.f2, Row k36 36 (.slice (some ⟨b14, 0, none⟩) 1 1) ([(⟨5, (⟨#[]⟩ : ByteArray), 0, ([] : List S36)⟩ : S36)] : List S36), Blk b34 [.int .i64 y29.1.f0, .int .i64 y29.1.f1, .slice A31 y29.1.f2.length c32] 24, Row k24 24 (.slice A31 y29.1.f2.length c32) y29.1.f2, Blk b28 [.int .i64 y23.1.f0, .int .i64 y23.1.f1, .slice A25 y23.1.f2.length c26] 24]) [3, 4, 5, 6, 7] 8 rfl rfl rfl) ?_
              refine TA.not 25 rfl (by kernel_rfl) rfl (PQ.then_ PQ.body) (Wt.no rfl rfl rfl hk429) (fun W hO => (hb349 _ _ (hb364 _ _ (hb383 _ _ hO))).selT (Ls := [Row k24 24 (.slice A3 y1.f2.length c4) y1.f2, Row k36 36 (.slice (some ⟨b14, 0, none⟩) 1 1) ([(⟨5, (⟨#[]⟩ : ByteArray), 0, ([] : List S36)⟩ : S36)] : List S36), Blk b34 [.int .i64 y29.1.f0, .int .i64 y29.1.f1, .slice A31 y29.1.f2.length c32] 24, Row k24 24 (.slice A31 y29.1.f2.length c32) y29.1.f2, Blk b28 [.int .i64 y23.1.f0, .int .i64 y23.1.f1, .slice A25 y23.1.f2.length c26] 24]) [3, 4, 5, 6, 7] 8 rfl rfl rfl) ?_
              refine TA.not 26 rfl (by kernel_rfl) rfl (PQ.then_ PQ.body) (Wt.no rfl rfl rfl hk429) (fun W hO => (hb349 _ _ (hb364 _ _ (hb383 _ _ hO))).selT (Ls := [Row k24 24 (.slice A3 y1.f2.length c4) y1.f2, Row k36 36 (.slice (some ⟨b14, 0, none⟩) 1 1) ([(⟨5, (⟨#[]⟩ : ByteArray), 0, ([] : List S36)⟩ : S36)] : List S36), Blk b34 [.int .i64 y29.1.f0, .int .i64 y29.1.f1, .slice A31 y29.1.f2.length c32] 24, Row k24 24 (.slice A31 y29.1.f2.length c32) y29.1.f2, Blk b28 [.int .i64 y23.1.f0, .int .i64 y23.1.f1, .slice A25 y23.1.f2.length c26] 24]) [3, 4, 5, 6, 7] 8 rfl rfl rfl) ?_
              refine TA.not 27 rfl (by kernel_rfl) rfl (PQ.then_ PQ.body) (Wt.no rfl rfl rfl hk429) (fun W hO => (hb349 _ _ (hb364 _ _ (hb383 _ _ hO))).selT (Ls := [Row k24 24 (.slice A3 y1.f2.length c4) y1.f2, Row k36 36 (.slice (some ⟨b14, 0, none⟩) 1 1) ([(⟨5, (⟨#[]⟩ : ByteArray), 0, ([] : List S36)⟩ : S36)] : List S36), Blk b34 [.int .i64 y29.1.f0, .int .i64 y29.1.f1, .slice A31 y29.1.f2.length c32] 24, Row k24 24 (.slice A31 y29.1.f2.length c32) y29.1.f2, Blk b28 [.int .i64 y23.1.f0, .int .i64 y23.1.f1, .slice A25 y23.1.f2.length c26] 24]) [3, 4, 5, 6, 7] 8 rfl rfl rfl) ?_
              refine TA.take 28 rfl (by kernel_rfl) rfl (PQ.then_ PQ.body) rfl (Val.pickN rfl hk429 rfl) (fun W hO => (hb349 _ _ (hb364 _ _ (hb383 _ _ hO))).selT (Ls := [Row k24 24 (.slice A3 y1.f2.length c4) y1.f2, Row k36 36 (.slice (some ⟨b14, 0, none⟩) 1 1) ([(⟨5, (⟨#[]⟩ : ByteArray), 0, ([] : List S36)⟩ : S36)] : List S36), Blk b34 [.int .i64 y29.1.f0, .int .i64 y29.1.f1, .slice A31 y29.1.f2.length c32] 24, Row k24 24 (.slice A31 y29.1.f2.length c32) y29.1.f2, Blk b28 [.int .i64 y23.1.f0, .int .i64 y23.1.f1, .slice A25 y23.1.f2.length c26] 24]) [3, 4, 5, 6, 7] 8 rfl rfl rfl) ?_
              refine TA.take 29 rfl (by kernel_rfl) rfl (PQ.then_ PQ.body) rfl (Val.move rfl) (fun W hO => (hb349 _ _ (hb364 _ _ (hb383 _ _ hO))).selT (Ls := [Row k24 24 (.slice A3 y1.f2.length c4) y1.f2, Row k36 36 (.slice (some ⟨b14, 0, none⟩) 1 1) ([(⟨5, (⟨#[]⟩ : ByteArray), 0, ([] : List S36)⟩ : S36)] : List S36), Blk b34 [.int .i64 y29.1.f0, .int .i64 y29.1.f1, .slice A31 y29.1.f2.length c32] 24, Row k24 24 (.slice A31 y29.1.f2.length c32) y29.1.f2, Blk b28 [.int .i64 y23.1.f0, .int .i64 y23.1.f1, .slice A25 y23.1.f2.length c26] 24]) [3, 4, 5, 6, 7] 8 rfl rfl rfl) ?_
              refine TA.not 30 rfl (by kernel_rfl) rfl (PQ.then_ PQ.body) (Wt.no rfl rfl rfl rfl) (fun W hO => (hb349 _ _ (hb364 _ _ (hb383 _ _ hO))).selT (Ls := [Row k24 24 (.slice A3 y1.f2.length c4) y1.f2, Row k36 36 (.slice (some ⟨b14, 0, none⟩) 1 1) ([(⟨5, (⟨#[]⟩ : ByteArray), 0, ([] : List S36)⟩ : S36)] : List S36), Blk b34 [.int .i64 y29.1.f0, .int .i64 y29.1.f1, .slice A31 y29.1.f2.length c32] 24, Row k24 24 (.slice A31 y29.1.f2.length c32) y29.1.f2, Blk b28 [.int .i64 y23.1.f0, .int .i64 y23.1.f1, .slice A25 y23.1.f2.length c26] 24]) [3, 4, 5, 6, 7] 8 rfl rfl rfl) ?_
              refine TA.not 31 rfl (by kernel_rfl) rfl (PQ.then_ PQ.body) (Wt.no rfl rfl rfl rfl) (fun W hO => (hb349 _ _ (hb364 _ _ (hb383 _ _ hO))).selT (Ls := [Row k24 24 (.slice A3 y1.f2.length c4) y1.f2, Row k36 36 (.slice (some ⟨b14, 0, none⟩) 1 1) ([(⟨5, (⟨#[]⟩ : ByteArray), 0, ([] : List S36)⟩ : S36)] : List S36), Blk b34 [.int .i64 y29.1.f0, .int .i64 y29.1.f1, .slice A31 y29.1.f2.length c32] 24, Row k24 24 (.slice A31 y29.1.f2.length c32) y29.1.f2, Blk b28 [.int .i64 y23.1.f0, .int .i64 y23.1.f1, .slice A25 y23.1.f2.length c26] 24]) [3, 4, 5, 6, 7] 8 rfl rfl rfl) ?_
              refine TA.take 32 rfl (by kernel_rfl) rfl (PQ.then_ PQ.body) rfl (Val.pickN rfl rfl rfl) (fun W hO => (hb349 _ _ (hb364 _ _ (hb383 _ _ hO))).selT (Ls := [Row k24 24 (.slice A3 y1.f2.length c4) y1.f2, Row k36 36 (.slice (some ⟨b14, 0, none⟩) 1 1) ([(⟨5, (⟨#[]⟩ : ByteArray), 0, ([] : List S36)⟩ : S36)] : List S36), Blk b34 [.int .i64 y29.1.f0, .int .i64 y29.1.f1, .slice A31 y29.1.f2.length c32] 24, Row k24 24 (.slice A31 y29.1.f2.length c32) y29.1.f2, Blk b28 [.int .i64 y23.1.f0, .int .i64 y23.1.f1, .slice A25 y23.1.f2.length c26] 24]) [3, 4, 5, 6, 7] 8 rfl rfl rfl) ?_
              refine TA.take 33 rfl (by kernel_rfl) rfl (PQ.then_ PQ.body) rfl (Val.move rfl) (fun W hO => (hb349 _ _ (hb364 _ _ (hb383 _ _ hO))).selT (Ls := [Row k24 24 (.slice A3 y1.f2.length c4) y1.f2, Row k36 36 (.slice (some ⟨b14, 0, none⟩) 1 1) ([(⟨5, (⟨#[]⟩ : ByteArray), 0, ([] : List S36)⟩ : S36)] : List S36), Blk b34 [.int .i64 y29.1.f0, .int .i64 y29.1.f1, .slice A31 y29.1.f2.length c32] 24, Row k24 24 (.slice A31 y29.1.f2.length c32) y29.1.f2, Blk b28 [.int .i64 y23.1.f0, .int .i64 y23.1.f1, .slice A25 y23.1.f2.length c26] 24]) [3, 4, 5, 6, 7] 8 rfl rfl rfl) ?_
              refine TA.not 34 rfl (by kernel_rfl) rfl (PQ.then_ PQ.body) (Wt.no rfl rfl rfl rfl) (fun W hO => (hb349 _ _ (hb364 _ _ (hb383 _ _ hO))).selT (Ls := [Row k24 24 (.slice A3 y1.f2.length c4) y1.f2, Row k36 36 (.slice (some ⟨b14, 0, none⟩) 1 1) ([(⟨5, (⟨#[]⟩ : ByteArray), 0, ([] : List S36)⟩ : S36)] : List S36), Blk b34 [.int .i64 y29.1.f0, .int .i64 y29.1.f1, .slice A31 y29.1.f2.length c32] 24, Row k24 24 (.slice A31 y29.1.f2.length c32) y29.1.f2, Blk b28 [.int .i64 y23.1.f0, .int .i64 y23.1.f1, .slice A25 y23.1.f2.length c26] 24]) [3, 4, 5, 6, 7] 8 rfl rfl rfl) ?_
              refine TA.not 35 rfl (by kernel_rfl) rfl (PQ.then_ PQ.body) (Wt.no rfl rfl rfl rfl) (fun W hO => (hb349 _ _ (hb364 _ _ (hb383 _ _ hO))).selT (Ls := [Row k24 24 (.slice A3 y1.f2.length c4) y1.f2, Row k36 36 (.slice (some ⟨b14, 0, none⟩) 1 1) ([(⟨5, (⟨#[]⟩ : ByteArray), 0, ([] : List S36)⟩ : S36)] : List S36), Blk b34 [.int .i64 y29.1.f0, .int .i64 y29.1.f1, .slice A31 y29.1.f2.length c32] 24, Row k24 24 (.slice A31 y29.1.f2.length c32) y29.1.f2, Blk b28 [.int .i64 y23.1.f0, .int .i64 y23.1.f1, .slice A25 y23.1.f2.length c26] 24]) [3, 4, 5, 6, 7] 8 rfl rfl rfl) ?_
              refine TA.take 36 rfl (by kernel_rfl) rfl (PQ.then_ PQ.body) rfl (Val.pickN rfl rfl rfl) (fun W hO => (hb349 _ _ (hb364 _ _ (hb383 _ _ hO))).selT (Ls := [Row k24 24 (.slice A3 y1.f2.length c4) y1.f2, Row k36 36 (.slice (some ⟨b14, 0, none⟩) 1 1) ([(⟨5, (⟨#[]⟩ : ByteArray), 0, ([] : List S36)⟩ : S36)] : List S36), Blk b34 [.int .i64 y29.1.f0, .int .i64 y29.1.f1, .slice A31 y29.1.f2.length c32] 24, Row k24 24 (.slice A31 y29.1.f2.length c32) y29.1.f2, Blk b28 [.int .i64 y23.1.f0, .int .i64 y23.1.f1, .slice A25 y23.1.f2.length c26] 24]) [3, 4, 5, 6, 7] 8 rfl rfl rfl) ?_
              refine TA.take 37 rfl (by kernel_rfl) rfl (PQ.then_ PQ.body) rfl (Val.move rfl) (fun W hO => (hb349 _ _ (hb364 _ _ (hb383 _ _ hO))).selT (Ls := [Row k24 24 (.slice A3 y1.f2.length c4) y1.f2, Row k36 36 (.slice (some ⟨b14, 0, none⟩) 1 1) ([(⟨5, (⟨#[]⟩ : ByteArray), 0, ([] : List S36)⟩ : S36)] : List S36), Blk b34 [.int .i64 y29.1.f0, .int .i64 y29.1.f1, .slice A31 y29.1.f2.length c32] 24, Row k24 24 (.slice A31 y29.1.f2.length c32) y29.1.f2, Blk b28 [.int .i64 y23.1.f0, .int .i64 y23.1.f1, .slice A25 y23.1.f2.length c26] 24]) [3, 4, 5, 6, 7] 8 rfl rfl rfl) ?_
              refine TA.not 38 rfl (by kernel_rfl) rfl (PQ.then_ PQ.body) (Wt.no rfl rfl rfl rfl) (fun W hO => (hb349 _ _ (hb364 _ _ (hb383 _ _ hO))).selT (Ls := [Row k24 24 (.slice A3 y1.f2.length c4) y1.f2, Row k36 36 (.slice (some ⟨b14, 0, none⟩) 1 1) ([(⟨5, (⟨#[]⟩ : ByteArray), 0, ([] : List S36)⟩ : S36)] : List S36), Blk b34 [.int .i64 y29.1.f0, .int .i64 y29.1.f1, .slice A31 y29.1.f2.length c32] 24, Row k24 24 (.slice A31 y29.1.f2.length c32) y29.1.f2, Blk b28 [.int .i64 y23.1.f0, .int .i64 y23.1.f1, .slice A25 y23.1.f2.length c26] 24]) [3, 4, 5, 6, 7] 8 rfl rfl rfl) ?_
              refine TA.not 39 rfl (by kernel_rfl) rfl (PQ.then_ PQ.body) (Wt.no rfl rfl rfl rfl) (fun W hO => (hb349 _ _ (hb364 _ _ (hb383 _ _ hO))).selT (Ls := [Row k24 24 (.slice A3 y1.f2.length c4) y1.f2, Row k36 36 (.slice (some ⟨b14, 0, none⟩) 1 1) ([(⟨5, (⟨#[]⟩ : ByteArray), 0, ([] : List S36)⟩ : S36)] : List S36), Blk b34 [.int .i64 y29.1.f0, .int .i64 y29.1.f1, .slice A31 y29.1.f2.length c32] 24, Row k24 24 (.slice A31 y29.1.f2.length c32) y29.1.f2, Blk b28 [.int .i64 y23.1.f0, .int .i64 y23.1.f1, .slice A25 y23.1.f2.length c26] 24]) [3, 4, 5, 6, 7] 8 rfl rfl rfl) ?_
              refine TA.not 40 rfl (by kernel_rfl) rfl (PQ.then_ PQ.body) (Wt.no rfl rfl rfl rfl) (fun W hO => (hb349 _ _ (hb364 _ _ (hb383 _ _ hO))).selT (Ls := [Row k24 24 (.slice A3 y1.f2.length c4) y1.f2, Row k36 36 (.slice (some ⟨b14, 0, none⟩) 1 1) ([(⟨5, (⟨#[]⟩ : ByteArray), 0, ([] : List S36)⟩ : S36)] : List S36), Blk b34 [.int .i64 y29.1.f0, .int .i64 y29.1.f1, .slice A31 y29.1.f2.length c32] 24, Row k24 24 (.slice A31 y29.1.f2.length c32) y29.1.f2, Blk b28 [.int .i64 y23.1.f0, .int .i64 y23.1.f1, .slice A25 y23.1.f2.length c26] 24]) [3, 4, 5, 6, 7] 8 rfl rfl rfl) ?_
              refine TA.take 41 rfl (by kernel_rfl) rfl (PQ.then_ PQ.body) rfl (Val.pickN rfl rfl rfl) (fun W hO => (hb349 _ _ (hb364 _ _ (hb383 _ _ hO))).selT (Ls := [Row k24 24 (.slice A3 y1.f2.length c4) y1.f2, Row k36 36 (.slice (some ⟨b14, 0, none⟩) 1 1) ([(⟨5, (⟨#[]⟩ : ByteArray), 0, ([] : List S36)⟩ : S36)] : List S36), Blk b34 [.int .i64 y29.1.f0, .int .i64 y29.1.f1, .slice A31 y29.1.f2.length c32] 24, Row k24 24 (.slice A31 y29.1.f2.length c32) y29.1.f2, Blk b28 [.int .i64 y23.1.f0, .int .i64 y23.1.f1, .slice A25 y23.1.f2.length c26] 24]) [3, 4, 5, 6, 7] 8 rfl rfl rfl) ?_
              refine TA.take 42 rfl (by kernel_rfl) rfl (PQ.then_ PQ.body) rfl (Val.assign rfl) (fun W hO => (hb349 _ _ (hb364 _ _ (hb383 _ _ hO))).selT (Ls := [Row k24 24 (.slice A3 y1.f2.length c4) y1.f2, Row k36 36 (.slice (some ⟨b14, 0, none⟩) 1 1) ([(⟨5, (⟨#[]⟩ : ByteArray), 0, ([] : List S36)⟩ : S36)] : List S36), Blk b34 [.int .i64 y29.1.f0, .int .i64 y29.1.f1, .slice A31 y29.1.f2.length c32] 24, Row k24 24 (.slice A31 y29.1.f2.length c32) y29.1.f2, Blk b28 [.int .i64 y23.1.f0, .int .i64 y23.1.f1, .slice A25 y23.1.f2.length c26] 24]) [3, 4, 5, 6, 7] 8 rfl rfl rfl) ?_
              refine TA.done (by kernel_rfl) ?_
              refine TQ.then_ ?_
              refine TC.ret ?_
              refine TQ.back hb383 ?_
              refine TQ.back hb364 ?_
              refine TQ.back hb349 ?_
              refine TQ.back hb338 ?_
              obtain rfl := Option.some.inj h
              exact TQ.fin (.inl rfl) rfl Tryd.results7 (.tmp rfl .nil) rfl (FRel.mk (Ls := []) [] 9 (Gd.le.refl _) rfl rfl rfl ⟨rfl, rfl, rfl⟩)
          · have hk430 : (y386.data.toList == (⟨#[40, 105, 110, 116, 44, 91, 51, 93, 42, 105, 110, 116, 44, 105, 110, 116, 41]⟩ : ByteArray).data.toList) = false := (by simpa using hg388)
            refine TA.not 20 rfl (by kernel_rfl) rfl (PQ.then_ PQ.body) (Wt.no rfl rfl rfl hk430) (fun W hO => (hb349 _ _ (hb364 _ _ (hb383 _ _ hO))).selT (Ls := [Row k24 24 (.slice A3 y1.f2.length c4) y1.f2, Row k36 36 (.slice (some ⟨b14, 0, none⟩) 1 1) ([(⟨5, (⟨#[]⟩ : ByteArray), 0, ([] : List S36)⟩ : S36)] : List S36), Blk b34 [.int .i64 y29.1.f0, .int .i64 y29.1.f1, .slice A31 y29.1.f2.length c32] 24, Row k24 24 (.slice A31 y29.1.f2.length c32) y29.1.f2, Blk b28 [.int .i64 y23.1.f0, .int .i64 y23.1.f1, .slice A25 y23.1.f2.length c26] 24]) [3, 4, 5, 6, 7] 8 rfl rfl rfl) ?_
            refine TA.not 21 rfl (by kernel_rfl) rfl (PQ.then_ PQ.body) (Wt.no rfl rfl rfl hk430) (fun W hO => (hb349 _ _ (hb364 _ _ (hb383 _ _ hO))).selT (Ls := [Row k24 24 (.slice A3 y1.f2.length c4) y1.f2, Row k36 36 (.slice (some ⟨b14, 0, none⟩) 1 1) ([(⟨5, (⟨#[]⟩ : ByteArray), 0, ([] : List S36)⟩ : S36)] : List S36), Blk b34 [.int .i64 y29.1.f0, .int .i64 y29.1.f1, .slice A31 y29.1.f2.length c32] 24, Row k24 24 (.slice A31 y29.1.f2.length c32) y29.1.f2, Blk b28 [.int .i64 y23.1.f0, .int .i64 y23.1.f1, .slice A25 y23.1.f2.length c26] 24]) [3, 4, 5, 6, 7] 8 rfl rfl rfl) ?_
            refine TA.take 22 rfl (by kernel_rfl) rfl (PQ.then_ PQ.body) rfl (Val.pickN rfl hk430 rfl) (fun W hO => (hb349 _ _ (hb364 _ _ (hb383 _ _ hO))).selT (Ls := [Row k24 24 (.slice A3 y1.f2.length c4) y1.f2, Row k36 36 (.slice (some ⟨b14, 0, none⟩) 1 1) ([(⟨5, (⟨#[]⟩ : ByteArray), 0, ([] : List S36)⟩ : S36)] : List S36), Blk b34 [.int .i64 y29.1.f0, .int .i64 y29.1.f1, .slice A31 y29.1.f2.length c32] 24, Row k24 24 (.slice A31 y29.1.f2.length c32) y29.1.f2, Blk b28 [.int .i64 y23.1.f0, .int .i64 y23.1.f1, .slice A25 y23.1.f2.length c26] 24]) [3, 4, 5, 6, 7] 8 rfl rfl rfl) ?_
            refine TA.take 23 rfl (by kernel_rfl) rfl (PQ.then_ PQ.body) rfl (Val.move rfl) (fun W hO => (hb349 _ _ (hb364 _ _ (hb383 _ _ hO))).selT (Ls := [Row k24 24 (.slice A3 y1.f2.length c4) y1.f2, Row k36 36 (.slice (some ⟨b14, 0, none⟩) 1 1) ([(⟨5, (⟨#[]⟩ : ByteArray), 0, ([] : List S36)⟩ : S36)] : List S36), Blk b34 [.int .i64 y29.1.f0, .int .i64 y29.1.f1, .slice A31 y29.1.f2.length c32] 24, Row k24 24 (.slice A31 y29.1.f2.length c32) y29.1.f2, Blk b28 [.int .i64 y23.1.f0, .int .i64 y23.1.f1, .slice A25 y23.1.f2.length c26] 24]) [3, 4, 5, 6, 7] 8 rfl rfl rfl) ?_
            refine TA.not 24 rfl (by kernel_rfl) rfl (PQ.then_ PQ.body) (Wt.no rfl rfl rfl rfl) (fun W hO => (hb349 _ _ (hb364 _ _ (hb383 _ _ hO))).selT (Ls := [Row k24 24 (.slice A3 y1.f2.length c4) y1.f2, Row k36 36 (.slice (some ⟨b14, 0, none⟩) 1 1) ([(⟨5, (⟨#[]⟩ : ByteArray), 0, ([] : List S36)⟩ : S36)] : List S36), Blk b34 [.int .i64 y29.1.f0, .int .i64 y29.1.f1, .slice A31 y29.1.f2.length c32] 24, Row k24 24 (.slice A31 y29.1.f2.length c32) y29.1.f2, Blk b28 [.int .i64 y23.1.f0, .int .i64 y23.1.f1, .slice A25 y23.1.f2.length c26] 24]) [3, 4, 5, 6, 7] 8 rfl rfl rfl) ?_
            refine TA.not 25 rfl (by kernel_rfl) rfl (PQ.then_ PQ.body) (Wt.no rfl rfl rfl rfl) (fun W hO => (hb349 _ _ (hb364 _ _ (hb383 _ _ hO))).selT (Ls := [Row k24 24 (.slice A3 y1.f2.length c4) y1.f2, Row k36 36 (.slice (some ⟨b14, 0, none⟩) 1 1) ([(⟨5, (⟨#[]⟩ : ByteArray), 0, ([] : List S36)⟩ : S36)] : List S36), Blk b34 [.int .i64 y29.1.f0, .int .i64 y29.1.f1, .slice A31 y29.1.f2.length c32] 24, Row k24 24 (.slice A31 y29.1.f2.length c32) y29.1.f2, Blk b28 [.int .i64 y23.1.f0, .int .i64 y23.1.f1, .slice A25 y23.1.f2.length c26] 24]) [3, 4, 5, 6, 7] 8 rfl rfl rfl) ?_
            refine TA.not 26 rfl (by kernel_rfl) rfl (PQ.then_ PQ.body) (Wt.no rfl rfl rfl rfl) (fun W hO => (hb349 _ _ (hb364 _ _ (hb383 _ _ hO))).selT (Ls := [Row k24 24 (.slice A3 y1.f2.length c4) y1.f2, Row k36 36 (.slice (some ⟨b14, 0, none⟩) 1 1) ([(⟨5, (⟨#[]⟩ : ByteArray), 0, ([] : List S36)⟩ : S36)] : List S36), Blk b34 [.int .i64 y29.1.f0, .int .i64 y29.1.f1, .slice A31 y29.1.f2.length c32] 24, Row k24 24 (.slice A31 y29.1.f2.length c32) y29.1.f2, Blk b28 [.int .i64 y23.1.f0, .int .i64 y23.1.f1, .slice A25 y23.1.f2.length c26] 24]) [3, 4, 5, 6, 7] 8 rfl rfl rfl) ?_
            refine TA.not 27 rfl (by kernel_rfl) rfl (PQ.then_ PQ.body) (Wt.no rfl rfl rfl rfl) (fun W hO => (hb349 _ _ (hb364 _ _ (hb383 _ _ hO))).selT (Ls := [Row k24 24 (.slice A3 y1.f2.length c4) y1.f2, Row k36 36 (.slice (some ⟨b14, 0, none⟩) 1 1) ([(⟨5, (⟨#[]⟩ : ByteArray), 0, ([] : List S36)⟩ : S36)] : List S36), Blk b34 [.int .i64 y29.1.f0, .int .i64 y29.1.f1, .slice A31 y29.1.f2.length c32] 24, Row k24 24 (.slice A31 y29.1.f2.length c32) y29.1.f2, Blk b28 [.int .i64 y23.1.f0, .int .i64 y23.1.f1, .slice A25 y23.1.f2.length c26] 24]) [3, 4, 5, 6, 7] 8 rfl rfl rfl) ?_
            refine TA.take 28 rfl (by kernel_rfl) rfl (PQ.then_ PQ.body) rfl (Val.pickN rfl rfl rfl) (fun W hO => (hb349 _ _ (hb364 _ _ (hb383 _ _ hO))).selT (Ls := [Row k24 24 (.slice A3 y1.f2.length c4) y1.f2, Row k36 36 (.slice (some ⟨b14, 0, none⟩) 1 1) ([(⟨5, (⟨#[]⟩ : ByteArray), 0, ([] : List S36)⟩ : S36)] : List S36), Blk b34 [.int .i64 y29.1.f0, .int .i64 y29.1.f1, .slice A31 y29.1.f2.length c32] 24, Row k24 24 (.slice A31 y29.1.f2.length c32) y29.1.f2, Blk b28 [.int .i64 y23.1.f0, .int .i64 y23.1.f1, .slice A25 y23.1.f2.length c26] 24]) [3, 4, 5, 6, 7] 8 rfl rfl rfl) ?_
            refine TA.take 29 rfl (by kernel_rfl) rfl (PQ.then_ PQ.body) rfl (Val.move rfl) (fun W hO => (hb349 _ _ (hb364 _ _ (hb383 _ _ hO))).selT (Ls := [Row k24 24 (.slice A3 y1.f2.length c4) y1.f2, Row k36 36 (.slice (some ⟨b14, 0, none⟩) 1 1) ([(⟨5, (⟨#[]⟩ : ByteArray), 0, ([] : List S36)⟩ : S36)] : List S36), Blk b34 [.int .i64 y29.1.f0, .int .i64 y29.1.f1, .slice A31 y29.1.f2.length c32] 24, Row k24 24 (.slice A31 y29.1.f2.length c32) y29.1.f2, Blk b28 [.int .i64 y23.1.f0, .int .i64 y23.1.f1, .slice A25 y23.1.f2.length c26] 24]) [3, 4, 5, 6, 7] 8 rfl rfl rfl) ?_
            refine TA.not 30 rfl (by kernel_rfl) rfl (PQ.then_ PQ.body) (Wt.no rfl rfl rfl rfl) (fun W hO => (hb349 _ _ (hb364 _ _ (hb383 _ _ hO))).selT (Ls := [Row k24 24 (.slice A3 y1.f2.length c4) y1.f2, Row k36 36 (.slice (some ⟨b14, 0, none⟩) 1 1) ([(⟨5, (⟨#[]⟩ : ByteArray), 0, ([] : List S36)⟩ : S36)] : List S36), Blk b34 [.int .i64 y29.1.f0, .int .i64 y29.1.f1, .slice A31 y29.1.f2.length c32] 24, Row k24 24 (.slice A31 y29.1.f2.length c32) y29.1.f2, Blk b28 [.int .i64 y23.1.f0, .int .i64 y23.1.f1, .slice A25 y23.1.f2.length c26] 24]) [3, 4, 5, 6, 7] 8 rfl rfl rfl) ?_
            refine TA.not 31 rfl (by kernel_rfl) rfl (PQ.then_ PQ.body) (Wt.no rfl rfl rfl rfl) (fun W hO => (hb349 _ _ (hb364 _ _ (hb383 _ _ hO))).selT (Ls := [Row k24 24 (.slice A3 y1.f2.length c4) y1.f2, Row k36 36 (.slice (some ⟨b14, 0, none⟩) 1 1) ([(⟨5, (⟨#[]⟩ : ByteArray), 0, ([] : List S36)⟩ : S36)] : List S36), Blk b34 [.int .i64 y29.1.f0, .int .i64 y29.1.f1, .slice A31 y29.1.f2.length c32] 24, Row k24 24 (.slice A31 y29.1.f2.length c32) y29.1.f2, Blk b28 [.int .i64 y23.1.f0, .int .i64 y23.1.f1, .slice A25 y23.1.f2.length c26] 24]) [3, 4, 5, 6, 7] 8 rfl rfl rfl) ?_
            refine TA.take 32 rfl (by kernel_rfl) rfl (PQ.then_ PQ.body) rfl (Val.pickN rfl rfl rfl) (fun W hO => (hb349 _ _ (hb364 _ _ (hb383 _ _ hO))).selT (Ls := [Row k24 24 (.slice A3 y1.f2.length c4) y1.f2, Row k36 36 (.slice (some ⟨b14, 0, none⟩) 1 1) ([(⟨5, (⟨#[]⟩ : ByteArray), 0, ([] : List S36)⟩ : S36)] : List S36), Blk b34 [.int .i64 y29.1.f0, .int .i64 y29.1.f1, .slice A31 y29.1.f2.length c32] 24, Row k24 24 (.slice A31 y29.1.f2.length c32) y29.1.f2, Blk b28 [.int .i64 y23.1.f0, .int .i64 y23.1.f1, .slice A25 y23.1.f2.length c26] 24]) [3, 4, 5, 6, 7] 8 rfl rfl rfl) ?_
            refine TA.take 33 rfl (by kernel_rfl) rfl (PQ.then_ PQ.body) rfl (Val.move rfl) (fun W hO => (hb349 _ _ (hb364 _ _ (hb383 _ _ hO))).selT (Ls := [Row k24 24 (.slice A3 y1.f2.length c4) y1.f2, Row k36 36 (.slice (some ⟨b14, 0, none⟩) 1 1) ([(⟨5, (⟨#[]⟩ : ByteArray), 0, ([] : List S36)⟩ : S36)] : List S36), Blk b34 [.int .i64 y29.1.f0, .int .i64 y29.1.f1, .slice A31 y29.1.f2.length c32] 24, Row k24 24 (.slice A31 y29.1.f2.length c32) y29.1.f2, Blk b28 [.int .i64 y23.1.f0, .int .i64 y23.1.f1, .slice A25 y23.1.f2.length c26] 24]) [3, 4, 5, 6, 7] 8 rfl rfl rfl) ?_
            refine TA.not 34 rfl (by kernel_rfl) rfl (PQ.then_ PQ.body) (Wt.no rfl rfl rfl rfl) (fun W hO => (hb349 _ _ (hb364 _ _ (hb383 _ _ hO))).selT (Ls := [Row k24 24 (.slice A3 y1.f2.length c4) y1.f2, Row k36 36 (.slice (some ⟨b14, 0, none⟩) 1 1) ([(⟨5, (⟨#[]⟩ : ByteArray), 0, ([] : List S36)⟩ : S36)] : List S36), Blk b34 [.int .i64 y29.1.f0, .int .i64 y29.1.f1, .slice A31 y29.1.f2.length c32] 24, Row k24 24 (.slice A31 y29.1.f2.length c32) y29.1.f2, Blk b28 [.int .i64 y23.1.f0, .int .i64 y23.1.f1, .slice A25 y23.1.f2.length c26] 24]) [3, 4, 5, 6, 7] 8 rfl rfl rfl) ?_
            refine TA.not 35 rfl (by kernel_rfl) rfl (PQ.then_ PQ.body) (Wt.no rfl rfl rfl rfl) (fun W hO => (hb349 _ _ (hb364 _ _ (hb383 _ _ hO))).selT (Ls := [Row k24 24 (.slice A3 y1.f2.length c4) y1.f2, Row k36 36 (.slice (some ⟨b14, 0, none⟩) 1 1) ([(⟨5, (⟨#[]⟩ : ByteArray), 0, ([] : List S36)⟩ : S36)] : List S36), Blk b34 [.int .i64 y29.1.f0, .int .i64 y29.1.f1, .slice A31 y29.1.f2.length c32] 24, Row k24 24 (.slice A31 y29.1.f2.length c32) y29.1.f2, Blk b28 [.int .i64 y23.1.f0, .int .i64 y23.1.f1, .slice A25 y23.1.f2.length c26] 24]) [3, 4, 5, 6, 7] 8 rfl rfl rfl) ?_
            refine TA.take 36 rfl (by kernel_rfl) rfl (PQ.then_ PQ.body) rfl (Val.pickN rfl rfl rfl) (fun W hO => (hb349 _ _ (hb364 _ _ (hb383 _ _ hO))).selT (Ls := [Row k24 24 (.slice A3 y1.f2.length c4) y1.f2, Row k36 36 (.slice (some ⟨b14, 0, none⟩) 1 1) ([(⟨5, (⟨#[]⟩ : ByteArray), 0, ([] : List S36)⟩ : S36)] : List S36), Blk b34 [.int .i64 y29.1.f0, .int .i64 y29.1.f1, .slice A31 y29.1.f2.length c32] 24, Row k24 24 (.slice A31 y29.1.f2.length c32) y29.1.f2, Blk b28 [.int .i64 y23.1.f0, .int .i64 y23.1.f1, .slice A25 y23.1.f2.length c26] 24]) [3, 4, 5, 6, 7] 8 rfl rfl rfl) ?_
            refine TA.take 37 rfl (by kernel_rfl) rfl (PQ.then_ PQ.body) rfl (Val.move rfl) (fun W hO => (hb349 _ _ (hb364 _ _ (hb383 _ _ hO))).selT (Ls := [Row k24 24 (.slice A3 y1.f2.length c4) y1.f2, Row k36 36 (.slice (some ⟨b14, 0, none⟩) 1 1) ([(⟨5, (⟨#[]⟩ : ByteArray), 0, ([] : List S36)⟩ : S36)] : List S36), Blk b34 [.int .i64 y29.1.f0, .int .i64 y29.1.f1, .slice A31 y29.1.f2.length c32] 24, Row k24 24 (.slice A31 y29.1.f2.length c32) y29.1.f2, Blk b28 [.int .i64 y23.1.f0, .int .i64 y23.1.f1, .slice A25 y23.1.f2.length c26] 24]) [3, 4, 5, 6, 7] 8 rfl rfl rfl) ?_
            refine TA.not 38 rfl (by kernel_rfl) rfl (PQ.then_ PQ.body) (Wt.no rfl rfl rfl rfl) (fun W hO => (hb349 _ _ (hb364 _ _ (hb383 _ _ hO))).selT (Ls := [Row k24 24 (.slice A3 y1.f2.length c4) y1.f2, Row k36 36 (.slice (some ⟨b14, 0, none⟩) 1 1) ([(⟨5, (⟨#[]⟩ : ByteArray), 0, ([] : List S36)⟩ : S36)] : List S36), Blk b34 [.int .i64 y29.1.f0, .int .i64 y29.1.f1, .slice A31 y29.1.f2.length c32] 24, Row k24 24 (.slice A31 y29.1.f2.length c32) y29.1.f2, Blk b28 [.int .i64 y23.1.f0, .int .i64 y23.1.f1, .slice A25 y23.1.f2.length c26] 24]) [3, 4, 5, 6, 7] 8 rfl rfl rfl) ?_
            refine TA.not 39 rfl (by kernel_rfl) rfl (PQ.then_ PQ.body) (Wt.no rfl rfl rfl rfl) (fun W hO => (hb349 _ _ (hb364 _ _ (hb383 _ _ hO))).selT (Ls := [Row k24 24 (.slice A3 y1.f2.length c4) y1.f2, Row k36 36 (.slice (some ⟨b14, 0, none⟩) 1 1) ([(⟨5, (⟨#[]⟩ : ByteArray), 0, ([] : List S36)⟩ : S36)] : List S36), Blk b34 [.int .i64 y29.1.f0, .int .i64 y29.1.f1, .slice A31 y29.1.f2.length c32] 24, Row k24 24 (.slice A31 y29.1.f2.length c32) y29.1.f2, Blk b28 [.int .i64 y23.1.f0, .int .i64 y23.1.f1, .slice A25 y23.1.f2.length c26] 24]) [3, 4, 5, 6, 7] 8 rfl rfl rfl) ?_
            refine TA.not 40 rfl (by kernel_rfl) rfl (PQ.then_ PQ.body) (Wt.no rfl rfl rfl rfl) (fun W hO => (hb349 _ _ (hb364 _ _ (hb383 _ _ hO))).selT (Ls := [Row k24 24 (.slice A3 y1.f2.length c4) y1.f2, Row k36 36 (.slice (some ⟨b14, 0, none⟩) 1 1) ([(⟨5, (⟨#[]⟩ : ByteArray), 0, ([] : List S36)⟩ : S36)] : List S36), Blk b34 [.int .i64 y29.1.f0, .int .i64 y29.1.f1, .slice A31 y29.1.f2.length c32] 24, Row k24 24 (.slice A31 y29.1.f2.length c32) y29.1.f2, Blk b28 [.int .i64 y23.1.f0, .int .i64 y23.1.f1, .slice A25 y23.1.f2.length c26] 24]) [3, 4, 5, 6, 7] 8 rfl rfl rfl) ?_
            refine TA.take 41 rfl (by kernel_rfl) rfl (PQ.then_ PQ.body) rfl (Val.pickN rfl rfl rfl) (fun W hO => (hb349 _ _ (hb364 _ _ (hb383 _ _ hO))).selT (Ls := [Row k24 24 (.slice A3 y1.f2.length c4) y1.f2, Row k36 36 (.slice (some ⟨b14, 0, none⟩) 1 1) ([(⟨5, (⟨#[]⟩ : ByteArray), 0, ([] : List S36)⟩ : S36)] : List S36), Blk b34 [.int .i64 y29.1.f0, .int .i64 y29.1.f1, .slice A31 y29.1.f2.length c32] 24, Row k24 24 (.slice A31 y29.1.f2.length c32) y29.1.f2, Blk b28 [.int .i64 y23.1.f0, .int .i64 y23.1.f1, .slice A25 y23.1.f2.length c26] 24]) [3, 4, 5, 6, 7] 8 rfl rfl rfl) ?_
            refine TA.take 42 rfl (by kernel_rfl) rfl (PQ.then_ PQ.body) rfl (Val.assign rfl) (fun W hO => (hb349 _ _ (hb364 _ _ (hb383 _ _ hO))).selT (Ls := [Row k24 24 (.slice A3 y1.f2.length c4) y1.f2, Row k36 36 (.slice (some ⟨b14, 0, none⟩) 1 1) ([(⟨5, (⟨#[]⟩ : ByteArray), 0, ([] : List S36)⟩ : S36)] : List S36), Blk b34 [.int .i64 y29.1.f0, .int .i64 y29.1.f1, .slice A31 y29.1.f2.length c32] 24, Row k24 24 (.slice A31 y29.1.f2.length c32) y29.1.f2, Blk b28 [.int .i64 y23.1.f0, .int .i64 y23.1.f1, .slice A25 y23.1.f2.length c26] 24]) [3, 4, 5, 6, 7] 8 rfl rfl rfl) ?_
            refine TA.done (by kernel_rfl) ?_
            refine TQ.then_ ?_
            refine TC.ret ?_
            refine TQ.back hb383 ?_
            refine TQ.back hb364 ?_
            refine TQ.back hb349 ?_
            refine TQ.back hb338 ?_
            obtain rfl := Option.some.inj h
            exact TQ.fin (.inl rfl) rfl Tryd.results7 (.tmp rfl .nil) rfl (FRel.mk (Ls := []) [] 9 (Gd.le.refl _) rfl rfl rfl ⟨rfl, rfl, rfl⟩)
        · have hk431 : y12.2 = false := (by simpa using hg373)
          refine TA.not 15 rfl (by kernel_rfl) rfl (PQ.then_ PQ.body) (Wt.no rfl rfl rfl hk431) (fun W hO => (hb349 _ _ (hb364 _ _ hO)).selT (Ls := [Row k24 24 (.slice A3 y1.f2.length c4) y1.f2, Row k36 36 (.slice (some ⟨b14, 0, none⟩) 1 1) ([(⟨5, (⟨#[]⟩ : ByteArray), 0, ([] : List S36)⟩ : S36)] : List S36), Blk b34 [.int .i64 y29.1.f0, .int .i64 y29.1.f1, .slice A31 y29.1.f2.length c32] 24, Row k24 24 (.slice A31 y29.1.f2.length c32) y29.1.f2, Blk b28 [.int .i64 y23.1.f0, .int .i64 y23.1.f1, .slice A25 y23.1.f2.length c26] 24]) [2, 3, 4, 5, 6] 7 rfl rfl rfl) ?_
          refine TA.not 16 rfl (by kernel_rfl) rfl (PQ.then_ PQ.body) (Wt.no rfl rfl rfl hk431) (fun W hO => (hb349 _ _ (hb364 _ _ hO)).selT (Ls := [Row k24 24 (.slice A3 y1.f2.length c4) y1.f2, Row k36 36 (.slice (some ⟨b14, 0, none⟩) 1 1) ([(⟨5, (⟨#[]⟩ : ByteArray), 0, ([] : List S36)⟩ : S36)] : List S36), Blk b34 [.int .i64 y29.1.f0, .int .i64 y29.1.f1, .slice A31 y29.1.f2.length c32] 24, Row k24 24 (.slice A31 y29.1.f2.length c32) y29.1.f2, Blk b28 [.int .i64 y23.1.f0, .int .i64 y23.1.f1, .slice A25 y23.1.f2.length c26] 24]) [2, 3, 4, 5, 6] 7 rfl rfl rfl) ?_
          refine TA.not 17 rfl (by kernel_rfl) rfl (PQ.then_ PQ.body) (Wt.no rfl rfl rfl hk431) (fun W hO => (hb349 _ _ (hb364 _ _ hO)).selT (Ls := [Row k24 24 (.slice A3 y1.f2.length c4) y1.f2, Row k36 36 (.slice (some ⟨b14, 0, none⟩) 1 1) ([(⟨5, (⟨#[]⟩ : ByteArray), 0, ([] : List S36)⟩ : S36)] : List S36), Blk b34 [.int .i64 y29.1.f0, .int .i64 y29.1.f1, .slice A31 y29.1.f2.length c32] 24, Row k24 24 (.slice A31 y29.1.f2.length c32) y29.1.f2, Blk b28 [.int .i64 y23.1.f0, .int .i64 y23.1.f1, .slice A25 y23.1.f2.length c26] 24]) [2, 3, 4, 5, 6] 7 rfl rfl rfl) ?_
          refine TA.take 18 rfl (by kernel_rfl) rfl (PQ.then_ PQ.body) rfl (Val.pickN rfl hk431 rfl) (fun W hO => (hb349 _ _ (hb364 _ _ hO)).selT (Ls := [Row k24 24 (.slice A3 y1.f2.length c4) y1.f2, Row k36 36 (.slice (some ⟨b14, 0, none⟩) 1 1) ([(⟨5, (⟨#[]⟩ : ByteArray), 0, ([] : List S36)⟩ : S36)] : List S36), Blk b34 [.int .i64 y29.1.f0, .int .i64 y29.1.f1, .slice A31 y29.1.f2.length c32] 24, Row k24 24 (.slice A31 y29.1.f2.length c32) y29.1.f2, Blk b28 [.int .i64 y23.1.f0, .int .i64 y23.1.f1, .slice A25 y23.1.f2.length c26] 24]) [2, 3, 4, 5, 6] 7 rfl rfl rfl) ?_
          refine TA.take 19 rfl (by kernel_rfl) rfl (PQ.then_ PQ.body) rfl (Val.move rfl) (fun W hO => (hb349 _ _ (hb364 _ _ hO)).selT (Ls := [Row k24 24 (.slice A3 y1.f2.length c4) y1.f2, Row k36 36 (.slice (some ⟨b14, 0, none⟩) 1 1) ([(⟨5, (⟨#[]⟩ : ByteArray), 0, ([] : List S36)⟩ : S36)] : List S36), Blk b34 [.int .i64 y29.1.f0, .int .i64 y29.1.f1, .slice A31 y29.1.f2.length c32] 24, Row k24 24 (.slice A31 y29.1.f2.length c32) y29.1.f2, Blk b28 [.int .i64 y23.1.f0, .int .i64 y23.1.f1, .slice A25 y23.1.f2.length c26] 24]) [2, 3, 4, 5, 6] 7 rfl rfl rfl) ?_
          refine TA.not 20 rfl (by kernel_rfl) rfl (PQ.then_ PQ.body) (Wt.no rfl rfl rfl rfl) (fun W hO => (hb349 _ _ (hb364 _ _ hO)).selT (Ls := [Row k24 24 (.slice A3 y1.f2.length c4) y1.f2, Row k36 36 (.slice (some ⟨b14, 0, none⟩) 1 1) ([(⟨5, (⟨#[]⟩ : ByteArray), 0, ([] : List S36)⟩ : S36)] : List S36), Blk b34 [.int .i64 y29.1.f0, .int .i64 y29.1.f1, .slice A31 y29.1.f2.length c32] 24, Row k24 24 (.slice A31 y29.1.f2.length c32) y29.1.f2, Blk b28 [.int .i64 y23.1.f0, .int .i64 y23.1.f1, .slice A25 y23.1.f2.length c26] 24]) [2, 3, 4, 5, 6] 7 rfl rfl rfl) ?_
          refine TA.not 21 rfl (by kernel_rfl) rfl (PQ.then_ PQ.body) (Wt.no rfl rfl rfl rfl) (fun W hO => (hb349 _ _ (hb364 _ _ hO)).selT (Ls := [Row k24 24 (.slice A3 y1.f2.length c4) y1.f2, Row k36 36 (.slice (some ⟨b14, 0, none⟩) 1 1) ([(⟨5, (⟨#[]⟩ : ByteArray), 0, ([] : List S36)⟩ : S36)] : List S36), Blk b34 [.int .i64 y29.1.f0, .int .i64 y29.1.f1, .slice A31 y29.1.f2.length c32] 24, Row k24 24 (.slice A31 y29.1.f2.length c32) y29.1.f2, Blk b28 [.int .i64 y23.1.f0, .int .i64 y23.1.f1, .slice A25 y23.1.f2.length c26] 24]) [2, 3, 4, 5, 6] 7 rfl rfl rfl) ?_
          refine TA.take 22 rfl (by kernel_rfl) rfl (PQ.then_ PQ.body) rfl (Val.pickN rfl rfl rfl) (fun W hO => (hb349 _ _ (hb364 _ _ hO)).selT (Ls := [Row k24 24 (.slice A3 y1.f2.length c4) y1.f2, Row k36 36 (.slice (some ⟨b14, 0, none⟩) 1 1) ([(⟨5, (⟨#[]⟩ : ByteArray), 0, ([] : List S36)⟩ : S36)] : List S36), Blk b34 [.int .i64 y29.1.f0, .int .i64 y29.1.f1, .slice A31 y29.1.f2.length c32] 24, Row k24 24 (.slice A31 y29.1.f2.length c32) y29.1.f2, Blk b28 [.int .i64 y23.1.f0, .int .i64 y23.1.f1, .slice A25 y23.1.f2.length c26] 24]) [2, 3, 4, 5, 6] 7 rfl rfl rfl) ?_
          refine TA.take 23 rfl (by kernel_rfl) rfl (PQ.then_ PQ.body) rfl (Val.move rfl) (fun W hO => (hb349 _ _ (hb364 _ _ hO)).selT (Ls := [Row k24 24 (.slice A3 y1.f2.length c4) y1.f2, Row k36 36 (.slice (some ⟨b14, 0, none⟩) 1 1) ([(⟨5, (⟨#[]⟩ : ByteArray), 0, ([] : List S36)⟩ : S36)] : List S36), Blk b34 [.int .i64 y29.1.f0, .int .i64 y29.1.f1, .slice A31 y29.1.f2.length c32] 24, Row k24 24 (.slice A31 y29.1.f2.length c32) y29.1.f2, Blk b28 [.int .i64 y23.1.f0, .int .i64 y23.1.f1, .slice A25 y23.1.f2.length c26] 24]) [2, 3, 4, 5, 6] 7 rfl rfl rfl) ?_
          refine TA.not 24 rfl (by kernel_rfl) rfl (PQ.then_ PQ.body) (Wt.no rfl rfl rfl rfl) (fun W hO => (hb349 _ _ (hb364 _ _ hO)).selT (Ls := [Row k24 24 (.slice A3 y1.f2.length c4) y1.f2, Row k36 36 (.slice (some ⟨b14, 0, none⟩) 1 1) ([(⟨5, (⟨#[]⟩ : ByteArray), 0, ([] : List S36)⟩ : S36)] : List S36), Blk b34 [.int .i64 y29.1.f0, .int .i64 y29.1.f1, .slice A31 y29.1.f2.length c32] 24, Row k24 24 (.slice A31 y29.1.f2.length c32) y29.1.f2, Blk b28 [.int .i64 y23.1.f0, .int .i64 y23.1.f1, .slice A25 y23.1.f2.length c26] 24]) [2, 3, 4, 5, 6] 7 rfl rfl rfl) ?_
          refine TA.not 25 rfl (by kernel_rfl) rfl (PQ.then_ PQ.body) (Wt.no rfl rfl rfl rfl) (fun W hO => (hb349 _ _ (hb364 _ _ hO)).selT (Ls := [Row k24 24 (.slice A3 y1.f2.length c4) y1.f2, Row k36 36 (.slice (some ⟨b14, 0, none⟩) 1 1) ([(⟨5, (⟨#[]⟩ : ByteArray), 0, ([] : List S36)⟩ : S36)] : List S36), Blk b34 [.int .i64 y29.1.f0, .int .i64 y29.1.f1, .slice A31 y29.1.f2.length c32] 24, Row k24 24 (.slice A31 y29.1.f2.length c32) y29.1.f2, Blk b28 [.int .i64 y23.1.f0, .int .i64 y23.1.f1, .slice A25 y23.1.f2.length c26] 24]) [2, 3, 4, 5, 6] 7 rfl rfl rfl) ?_
          refine TA.not 26 rfl (by kernel_rfl) rfl (PQ.then_ PQ.body) (Wt.no rfl rfl rfl rfl) (fun W hO => (hb349 _ _ (hb364 _ _ hO)).selT (Ls := [Row k24 24 (.slice A3 y1.f2.length c4) y1.f2, Row k36 36 (.slice (some ⟨b14, 0, none⟩) 1 1) ([(⟨5, (⟨#[]⟩ : ByteArray), 0, ([] : List S36)⟩ : S36)] : List S36), Blk b34 [.int .i64 y29.1.f0, .int .i64 y29.1.f1, .slice A31 y29.1.f2.length c32] 24, Row k24 24 (.slice A31 y29.1.f2.length c32) y29.1.f2, Blk b28 [.int .i64 y23.1.f0, .int .i64 y23.1.f1, .slice A25 y23.1.f2.length c26] 24]) [2, 3, 4, 5, 6] 7 rfl rfl rfl) ?_
          refine TA.not 27 rfl (by kernel_rfl) rfl (PQ.then_ PQ.body) (Wt.no rfl rfl rfl rfl) (fun W hO => (hb349 _ _ (hb364 _ _ hO)).selT (Ls := [Row k24 24 (.slice A3 y1.f2.length c4) y1.f2, Row k36 36 (.slice (some ⟨b14, 0, none⟩) 1 1) ([(⟨5, (⟨#[]⟩ : ByteArray), 0, ([] : List S36)⟩ : S36)] : List S36), Blk b34 [.int .i64 y29.1.f0, .int .i64 y29.1.f1, .slice A31 y29.1.f2.length c32] 24, Row k24 24 (.slice A31 y29.1.f2.length c32) y29.1.f2, Blk b28 [.int .i64 y23.1.f0, .int .i64 y23.1.f1, .slice A25 y23.1.f2.length c26] 24]) [2, 3, 4, 5, 6] 7 rfl rfl rfl) ?_
          refine TA.take 28 rfl (by kernel_rfl) rfl (PQ.then_ PQ.body) rfl (Val.pickN rfl rfl rfl) (fun W hO => (hb349 _ _ (hb364 _ _ hO)).selT (Ls := [Row k24 24 (.slice A3 y1.f2.length c4) y1.f2, Row k36 36 (.slice (some ⟨b14, 0, none⟩) 1 1) ([(⟨5, (⟨#[]⟩ : ByteArray), 0, ([] : List S36)⟩ : S36)] : List S36), Blk b34 [.int .i64 y29.1.f0, .int .i64 y29.1.f1, .slice A31 y29.1.f2.length c32] 24, Row k24 24 (.slice A31 y29.1.f2.length c32) y29.1.f2, Blk b28 [.int .i64 y23.1.f0, .int .i64 y23.1.f1, .slice A25 y23.1.f2.length c26] 24]) [2, 3, 4, 5, 6] 7 rfl rfl rfl) ?_
          refine TA.take 29 rfl (by kernel_rfl) rfl (PQ.then_ PQ.body) rfl (Val.move rfl) (fun W hO => (hb349 _ _ (hb364 _ _ hO)).selT (Ls := [Row k24 24 (.slice A3 y1.f2.length c4) y1.f2, Row k36 36 (.slice (some ⟨b14, 0, none⟩) 1 1) ([(⟨5, (⟨#[]⟩ : ByteArray), 0, ([] : List S36)⟩ : S36)] : List S36), Blk b34 [.int .i64 y29.1.f0, .int .i64 y29.1.f1, .slice A31 y29.1.f2.length c32] 24, Row k24 24 (.slice A31 y29.1.f2.length c32) y29.1.f2, Blk b28 [.int .i64 y23.1.f0, .int .i64 y23.1.f1, .slice A25 y23.1.f2.length c26] 24]) [2, 3, 4, 5, 6] 7 rfl rfl rfl) ?_
          refine TA.not 30 rfl (by kernel_rfl) rfl (PQ.then_ PQ.body) (Wt.no rfl rfl rfl rfl) (fun W hO => (hb349 _ _ (hb364 _ _ hO)).selT (Ls := [Row k24 24 (.slice A3 y1.f2.length c4) y1.f2, Row k36 36 (.slice (some ⟨b14, 0, none⟩) 1 1) ([(⟨5, (⟨#[]⟩ : ByteArray), 0, ([] : List S36)⟩ : S36)] : List S36), Blk b34 [.int .i64 y29.1.f0, .int .i64 y29.1.f1, .slice A31 y29.1.f2.length c32] 24, Row k24 24 (.slice A31 y29.1.f2.length c32) y29.1.f2, Blk b28 [.int .i64 y23.1.f0, .int .i64 y23.1.f1, .slice A25 y23.1.f2.length c26] 24]) [2, 3, 4, 5, 6] 7 rfl rfl rfl) ?_
          refine TA.not 31 rfl (by kernel_rfl) rfl (PQ.then_ PQ.body) (Wt.no rfl rfl rfl rfl) (fun W hO => (hb349 _ _ (hb364 _ _ hO)).selT (Ls := [Row k24 24 (.slice A3 y1.f2.length c4) y1.f2, Row k36 36 (.slice (some ⟨b14, 0, none⟩) 1 1) ([(⟨5, (⟨#[]⟩ : ByteArray), 0, ([] : List S36)⟩ : S36)] : List S36), Blk b34 [.int .i64 y29.1.f0, .int .i64 y29.1.f1, .slice A31 y29.1.f2.length c32] 24, Row k24 24 (.slice A31 y29.1.f2.length c32) y29.1.f2, Blk b28 [.int .i64 y23.1.f0, .int .i64 y23.1.f1, .slice A25 y23.1.f2.length c26] 24]) [2, 3, 4, 5, 6] 7 rfl rfl rfl) ?_
          refine TA.take 32 rfl (by kernel_rfl) rfl (PQ.then_ PQ.body) rfl (Val.pickN rfl rfl rfl) (fun W hO => (hb349 _ _ (hb364 _ _ hO)).selT (Ls := [Row k24 24 (.slice A3 y1.f2.length c4) y1.f2, Row k36 36 (.slice (some ⟨b14, 0, none⟩) 1 1) ([(⟨5, (⟨#[]⟩ : ByteArray), 0, ([] : List S36)⟩ : S36)] : List S36), Blk b34 [.int .i64 y29.1.f0, .int .i64 y29.1.f1, .slice A31 y29.1.f2.length c32] 24, Row k24 24 (.slice A31 y29.1.f2.length c32) y29.1.f2, Blk b28 [.int .i64 y23.1.f0, .int .i64 y23.1.f1, .slice A25 y23.1.f2.length c26] 24]) [2, 3, 4, 5, 6] 7 rfl rfl rfl) ?_
          refine TA.take 33 rfl (by kernel_rfl) rfl (PQ.then_ PQ.body) rfl (Val.move rfl) (fun W hO => (hb349 _ _ (hb364 _ _ hO)).selT (Ls := [Row k24 24 (.slice A3 y1.f2.length c4) y1.f2, Row k36 36 (.slice (some ⟨b14, 0, none⟩) 1 1) ([(⟨5, (⟨#[]⟩ : ByteArray), 0, ([] : List S36)⟩ : S36)] : List S36), Blk b34 [.int .i64 y29.1.f0, .int .i64 y29.1.f1, .slice A31 y29.1.f2.length c32] 24, Row k24 24 (.slice A31 y29.1.f2.length c32) y29.1.f2, Blk b28 [.int .i64 y23.1.f0, .int .i64 y23.1.f1, .slice A25 y23.1.f2.length c26] 24]) [2, 3, 4, 5, 6] 7 rfl rfl rfl) ?_
          refine TA.not 34 rfl (by kernel_rfl) rfl (PQ.then_ PQ.body) (Wt.no rfl rfl rfl rfl) (fun W hO => (hb349 _ _ (hb364 _ _ hO)).selT (Ls := [Row k24 24 (.slice A3 y1.f2.length c4) y1.f2, Row k36 36 (.slice (some ⟨b14, 0, none⟩) 1 1) ([(⟨5, (⟨#[]⟩ : ByteArray), 0, ([] : List S36)⟩ : S36)] : List S36), Blk b34 [.int .i64 y29.1.f0, .int .i64 y29.1.f1, .slice A31 y29.1.f2.length c32] 24, Row k24 24 (.slice A31 y29.1.f2.length c32) y29.1.f2, Blk b28 [.int .i64 y23.1.f0, .int .i64 y23.1.f1, .slice A25 y23.1.f2.length c26] 24]) [2, 3, 4, 5, 6] 7 rfl rfl rfl) ?_
          refine TA.not 35 rfl (by kernel_rfl) rfl (PQ.then_ PQ.body) (Wt.no rfl rfl rfl rfl) (fun W hO => (hb349 _ _ (hb364 _ _ hO)).selT (Ls := [Row k24 24 (.slice A3 y1.f2.length c4) y1.f2, Row k36 36 (.slice (some ⟨b14, 0, none⟩) 1 1) ([(⟨5, (⟨#[]⟩ : ByteArray), 0, ([] : List S36)⟩ : S36)] : List S36), Blk b34 [.int .i64 y29.1.f0, .int .i64 y29.1.f1, .slice A31 y29.1.f2.length c32] 24, Row k24 24 (.slice A31 y29.1.f2.length c32) y29.1.f2, Blk b28 [.int .i64 y23.1.f0, .int .i64 y23.1.f1, .slice A25 y23.1.f2.length c26] 24]) [2, 3, 4, 5, 6] 7 rfl rfl rfl) ?_
          refine TA.take 36 rfl (by kernel_rfl) rfl (PQ.then_ PQ.body) rfl (Val.pickN rfl rfl rfl) (fun W hO => (hb349 _ _ (hb364 _ _ hO)).selT (Ls := [Row k24 24 (.slice A3 y1.f2.length c4) y1.f2, Row k36 36 (.slice (some ⟨b14, 0, none⟩) 1 1) ([(⟨5, (⟨#[]⟩ : ByteArray), 0, ([] : List S36)⟩ : S36)] : List S36), Blk b34 [.int .i64 y29.1.f0, .int .i64 y29.1.f1, .slice A31 y29.1.f2.length c32] 24, Row k24 24 (.slice A31 y29.1.f2.length c32) y29.1.f2, Blk b28 [.int .i64 y23.1.f0, .int .i64 y23.1.f1, .slice A25 y23.1.f2.length c26] 24]) [2, 3, 4, 5, 6] 7 rfl rfl rfl) ?_
          refine TA.take 37 rfl (by kernel_rfl) rfl (PQ.then_ PQ.body) rfl (Val.move rfl) (fun W hO => (hb349 _ _ (hb364 _ _ hO)).selT (Ls := [Row k24 24 (.slice A3 y1.f2.length c4) y1.f2, Row k36 36 (.slice (some ⟨b14, 0, none⟩) 1 1) ([(⟨5, (⟨#[]⟩ : ByteArray), 0, ([] : List S36)⟩ : S36)] : List S36), Blk b34 [.int .i64 y29.1.f0, .int .i64 y29.1.f1, .slice A31 y29.1.f2.length c32] 24, Row k24 24 (.slice A31 y29.1.f2.length c32) y29.1.f2, Blk b28 [.int .i64 y23.1.f0, .int .i64 y23.1.f1, .slice A25 y23.1.f2.length c26] 24]) [2, 3, 4, 5, 6] 7 rfl rfl rfl) ?_
          refine TA.not 38 rfl (by kernel_rfl) rfl (PQ.then_ PQ.body) (Wt.no rfl rfl rfl rfl) (fun W hO => (hb349 _ _ (hb364 _ _ hO)).selT (Ls := [Row k24 24 (.slice A3 y1.f2.length c4) y1.f2, Row k36 36 (.slice (some ⟨b14, 0, none⟩) 1 1) ([(⟨5, (⟨#[]⟩ : ByteArray), 0, ([] : List S36)⟩ : S36)] : List S36), Blk b34 [.int .i64 y29.1.f0, .int .i64 y29.1.f1, .slice A31 y29.1.f2.length c32] 24, Row k24 24 (.slice A31 y29.1.f2.length c32) y29.1.f2, Blk b28 [.int .i64 y23.1.f0, .int .i64 y23.1.f1, .slice A25 y23.1.f2.length c26] 24]) [2, 3, 4, 5, 6] 7 rfl rfl rfl) ?_
          refine TA.not 39 rfl (by kernel_rfl) rfl (PQ.then_ PQ.body) (Wt.no rfl rfl rfl rfl) (fun W hO => (hb349 _ _ (hb364 _ _ hO)).selT (Ls := [Row k24 24 (.slice A3 y1.f2.length c4) y1.f2, Row k36 36 (.slice (some ⟨b14, 0, none⟩) 1 1) ([(⟨5, (⟨#[]⟩ : ByteArray), 0, ([] : List S36)⟩ : S36)] : List S36), Blk b34 [.int .i64 y29.1.f0, .int .i64 y29.1.f1, .slice A31 y29.1.f2.length c32] 24, Row k24 24 (.slice A31 y29.1.f2.length c32) y29.1.f2, Blk b28 [.int .i64 y23.1.f0, .int .i64 y23.1.f1, .slice A25 y23.1.f2.length c26] 24]) [2, 3, 4, 5, 6] 7 rfl rfl rfl) ?_
          refine TA.not 40 rfl (by kernel_rfl) rfl (PQ.then_ PQ.body) (Wt.no rfl rfl rfl rfl) (fun W hO => (hb349 _ _ (hb364 _ _ hO)).selT (Ls := [Row k24 24 (.slice A3 y1.f2.length c4) y1.f2, Row k36 36 (.slice (some ⟨b14, 0, none⟩) 1 1) ([(⟨5, (⟨#[]⟩ : ByteArray), 0, ([] : List S36)⟩ : S36)] : List S36), Blk b34 [.int .i64 y29.1.f0, .int .i64 y29.1.f1, .slice A31 y29.1.f2.length c32] 24, Row k24 24 (.slice A31 y29.1.f2.length c32) y29.1.f2, Blk b28 [.int .i64 y23.1.f0, .int .i64 y23.1.f1, .slice A25 y23.1.f2.length c26] 24]) [2, 3, 4, 5, 6] 7 rfl rfl rfl) ?_
          refine TA.take 41 rfl (by kernel_rfl) rfl (PQ.then_ PQ.body) rfl (Val.pickN rfl rfl rfl) (fun W hO => (hb349 _ _ (hb364 _ _ hO)).selT (Ls := [Row k24 24 (.slice A3 y1.f2.length c4) y1.f2, Row k36 36 (.slice (some ⟨b14, 0, none⟩) 1 1) ([(⟨5, (⟨#[]⟩ : ByteArray), 0, ([] : List S36)⟩ : S36)] : List S36), Blk b34 [.int .i64 y29.1.f0, .int .i64 y29.1.f1, .slice A31 y29.1.f2.length c32] 24, Row k24 24 (.slice A31 y29.1.f2.length c32) y29.1.f2, Blk b28 [.int .i64 y23.1.f0, .int .i64 y23.1.f1, .slice A25 y23.1.f2.length c26] 24]) [2, 3, 4, 5, 6] 7 rfl rfl rfl) ?_
          refine TA.take 42 rfl (by kernel_rfl) rfl (PQ.then_ PQ.body) rfl (Val.assign rfl) (fun W hO => (hb349 _ _ (hb364 _ _ hO)).selT (Ls := [Row k24 24 (.slice A3 y1.f2.length c4) y1.f2, Row k36 36 (.slice (some ⟨b14, 0, none⟩) 1 1) ([(⟨5, (⟨#[]⟩ : ByteArray), 0, ([] : List S36)⟩ : S36)] : List S36), Blk b34 [.int .i64 y29.1.f0, .int .i64 y29.1.f1, .slice A31 y29.1.f2.length c32] 24, Row k24 24 (.slice A31 y29.1.f2.length c32) y29.1.f2, Blk b28 [.int .i64 y23.1.f0, .int .i64 y23.1.f1, .slice A25 y23.1.f2.length c26] 24]) [2, 3, 4, 5, 6] 7 rfl rfl rfl) ?_
          refine TA.done (by kernel_rfl) ?_
          refine TQ.then_ ?_
          refine TC.ret ?_
          refine TQ.back hb364 ?_
          refine TQ.back hb349 ?_
          refine TQ.back hb338 ?_
          obtain rfl := Option.some.inj h
          exact TQ.fin (.inl rfl) rfl Tryd.results7 (.tmp rfl .nil) rfl (FRel.mk (Ls := []) [] 8 (Gd.le.refl _) rfl rfl rfl ⟨rfl, rfl, rfl⟩)
      · have hk432 : decide (y12.1 = 4) = false := decide_eq_false hg371
        refine TA.not 12 rfl (by kernel_rfl) rfl (PQ.then_ PQ.body) (Wt.no rfl rfl rfl hk432) (fun W hO => (hb349 _ _ (hb364 _ _ hO)).selT (Ls := [Row k24 24 (.slice A3 y1.f2.length c4) y1.f2, Row k36 36 (.slice (some ⟨b14, 0, none⟩) 1 1) ([(⟨5, (⟨#[]⟩ : ByteArray), 0, ([] : List S36)⟩ : S36)] : List S36), Blk b34 [.int .i64 y29.1.f0, .int .i64 y29.1.f1, .slice A31 y29.1.f2.length c32] 24, Row k24 24 (.slice A31 y29.1.f2.length c32) y29.1.f2, Blk b28 [.int .i64 y23.1.f0, .int .i64 y23.1.f1, .slice A25 y23.1.f2.length c26] 24]) [2, 3, 4, 5, 6] 7 rfl rfl rfl) ?_
        refine TA.take 13 rfl (by kernel_rfl) rfl (PQ.then_ PQ.body) rfl (Val.pickN rfl hk432 rfl) (fun W hO => (hb349 _ _ (hb364 _ _ hO)).selT (Ls := [Row k24 24 (.slice A3 y1.f2.length c4) y1.f2, Row k36 36 (.slice (some ⟨b14, 0, none⟩) 1 1) ([(⟨5, (⟨#[]⟩ : ByteArray), 0, ([] : List S36)⟩ : S36)] : List S36), Blk b34 [.int .i64 y29.1.f0, .int .i64 y29.1.f1, .slice A31 y29.1.f2.length c32] 24, Row k24 24 (.slice A31 y29.1.f2.length c32) y29.1.f2, Blk b28 [.int .i64 y23.1.f0, .int .i64 y23.1.f1, .slice A25 y23.1.f2.length c26] 24]) [2, 3, 4, 5, 6] 7 rfl rfl rfl) ?_
        refine TA.take 14 rfl (by kernel_rfl) rfl (PQ.then_ PQ.body) rfl (Val.move rfl) (fun W hO => (hb349 _ _ (hb364 _ _ hO)).selT (Ls := [Row k24 24 (.slice A3 y1.f2.length c4) y1.f2, Row k36 36 (.slice (some ⟨b14, 0, none⟩) 1 1) ([(⟨5, (⟨#[]⟩ : ByteArray), 0, ([] : List S36)⟩ : S36)] : List S36), Blk b34 [.int .i64 y29.1.f0, .int .i64 y29.1.f1, .slice A31 y29.1.f2.length c32] 24, Row k24 24 (.slice A31 y29.1.f2.length c32) y29.1.f2, Blk b28 [.int .i64 y23.1.f0, .int .i64 y23.1.f1, .slice A25 y23.1.f2.length c26] 24]) [2, 3, 4, 5, 6] 7 rfl rfl rfl) ?_
        refine TA.not 15 rfl (by kernel_rfl) rfl (PQ.then_ PQ.body) (Wt.no rfl rfl rfl rfl) (fun W hO => (hb349 _ _ (hb364 _ _ hO)).selT (Ls := [Row k24 24 (.slice A3 y1.f2.length c4) y1.f2, Row k36 36 (.slice (some ⟨b14, 0, none⟩) 1 1) ([(⟨5, (⟨#[]⟩ : ByteArray), 0, ([] : List S36)⟩ : S36)] : List S36), Blk b34 [.int .i64 y29.1.f0, .int .i64 y29.1.f1, .slice A31 y29.1.f2.length c32] 24, Row k24 24 (.slice A31 y29.1.f2.length c32) y29.1.f2, Blk b28 [.int .i64 y23.1.f0, .int .i64 y23.1.f1, .slice A25 y23.1.f2.length c26] 24]) [2, 3, 4, 5, 6] 7 rfl rfl rfl) ?_
        refine TA.not 16 rfl (by kernel_rfl) rfl (PQ.then_ PQ.body) (Wt.no rfl rfl rfl rfl) (fun W hO => (hb349 _ _ (hb364 _ _ hO)).selT (Ls := [Row k24 24 (.slice A3 y1.f2.length c4) y1.f2, Row k36 36 (.slice (some ⟨b14, 0, none⟩) 1 1) ([(⟨5, (⟨#[]⟩ : ByteArray), 0, ([] : List S36)⟩ : S36)] : List S36), Blk b34 [.int .i64 y29.1.f0, .int .i64 y29.1.f1, .slice A31 y29.1.f2.length c32] 24, Row k24 24 (.slice A31 y29.1.f2.length c32) y29.1.f2, Blk b28 [.int .i64 y23.1.f0, .int .i64 y23.1.f1, .slice A25 y23.1.f2.length c26] 24]) [2, 3, 4, 5, 6] 7 rfl rfl rfl) ?_
        refine TA.not 17 rfl (by kernel_rfl) rfl (PQ.then_ PQ.body) (Wt.no rfl rfl rfl rfl) (fun W hO => (hb349 _ _ (hb364 _ _ hO)).selT (Ls := [Row k24 24 (.slice A3 y1.f2.length c4) y1.f2, Row k36 36 (.slice (some ⟨b14, 0, none⟩) 1 1) ([(⟨5, (⟨#[]⟩ : ByteArray), 0, ([] : List S36)⟩ : S36)] : List S36), Blk b34 [.int .i64 y29.1.f0, .int .i64 y29.1.f1, .slice A31 y29.1.f2.length c32] 24, Row k24 24 (.slice A31 y29.1.f2.length c32) y29.1.f2, Blk b28 [.int .i64 y23.1.f0, .int .i64 y23.1.f1, .slice A25 y23.1.f2.length c26] 24]) [2, 3, 4, 5, 6] 7 rfl rfl rfl) ?_
        refine TA.take 18 rfl (by kernel_rfl) rfl (PQ.then_ PQ.body) rfl (Val.pickN rfl rfl rfl) (fun W hO => (hb349 _ _ (hb364 _ _ hO)).selT (Ls := [Row k24 24 (.slice A3 y1.f2.length c4) y1.f2, Row k36 36 (.slice (some ⟨b14, 0, none⟩) 1 1) ([(⟨5, (⟨#[]⟩ : ByteArray), 0, ([] : List S36)⟩ : S36)] : List S36), Blk b34 [.int .i64 y29.1.f0, .int .i64 y29.1.f1, .slice A31 y29.1.f2.length c32] 24, Row k24 24 (.slice A31 y29.1.f2.length c32) y29.1.f2, Blk b28 [.int .i64 y23.1.f0, .int .i64 y23.1.f1, .slice A25 y23.1.f2.length c26] 24]) [2, 3, 4, 5, 6] 7 rfl rfl rfl) ?_
        refine TA.take 19 rfl (by kernel_rfl) rfl (PQ.then_ PQ.body) rfl (Val.move rfl) (fun W hO => (hb349 _ _ (hb364 _ _ hO)).selT (Ls := [Row k24 24 (.slice A3 y1.f2.length c4) y1.f2, Row k36 36 (.slice (some ⟨b14, 0, none⟩) 1 1) ([(⟨5, (⟨#[]⟩ : ByteArray), 0, ([] : List S36)⟩ : S36)] : List S36), Blk b34 [.int .i64 y29.1.f0, .int .i64 y29.1.f1, .slice A31 y29.1.f2.length c32] 24, Row k24 24 (.slice A31 y29.1.f2.length c32) y29.1.f2, Blk b28 [.int .i64 y23.1.f0, .int .i64 y23.1.f1, .slice A25 y23.1.f2.length c26] 24]) [2, 3, 4, 5, 6] 7 rfl rfl rfl) ?_
        refine TA.not 20 rfl (by kernel_rfl) rfl (PQ.then_ PQ.body) (Wt.no rfl rfl rfl rfl) (fun W hO => (hb349 _ _ (hb364 _ _ hO)).selT (Ls := [Row k24 24 (.slice A3 y1.f2.length c4) y1.f2, Row k36 36 (.slice (some ⟨b14, 0, none⟩) 1 1) ([(⟨5, (⟨#[]⟩ : ByteArray), 0, ([] : List S36)⟩ : S36)] : List S36), Blk b34 [.int .i64 y29.1.f0, .int .i64 y29.1.f1, .slice A31 y29.1.f2.length c32] 24, Row k24 24 (.slice A31 y29.1.f2.length c32) y29.1.f2, Blk b28 [.int .i64 y23.1.f0, .int .i64 y23.1.f1, .slice A25 y23.1.f2.length c26] 24]) [2, 3, 4, 5, 6] 7 rfl rfl rfl) ?_
        refine TA.not 21 rfl (by kernel_rfl) rfl (PQ.then_ PQ.body) (Wt.no rfl rfl rfl rfl) (fun W hO => (hb349 _ _ (hb364 _ _ hO)).selT (Ls := [Row k24 24 (.slice A3 y1.f2.length c4) y1.f2, Row k36 36 (.slice (some ⟨b14, 0, none⟩) 1 1) ([(⟨5, (⟨#[]⟩ : ByteArray), 0, ([] : List S36)⟩ : S36)] : List S36), Blk b34 [.int .i64 y29.1.f0, .int .i64 y29.1.f1, .slice A31 y29.1.f2.length c32] 24, Row k24 24 (.slice A31 y29.1.f2.length c32) y29.1.f2, Blk b28 [.int .i64 y23.1.f0, .int .i64 y23.1.f1, .slice A25 y23.1.f2.length c26] 24]) [2, 3, 4, 5, 6] 7 rfl rfl rfl) ?_
        refine TA.take 22 rfl (by kernel_rfl) rfl (PQ.then_ PQ.body) rfl (Val.pickN rfl rfl rfl) (fun W hO => (hb349 _ _ (hb364 _ _ hO)).selT (Ls := [Row k24 24 (.slice A3 y1.f2.length c4) y1.f2, Row k36 36 (.slice (some ⟨b14, 0, none⟩) 1 1) ([(⟨5, (⟨#[]⟩ : ByteArray), 0, ([] : List S36)⟩ : S36)] : List S36), Blk b34 [.int .i64 y29.1.f0, .int .i64 y29.1.f1, .slice A31 y29.1.f2.length c32] 24, Row k24 24 (.slice A31 y29.1.f2.length c32) y29.1.f2, Blk b28 [.int .i64 y23.1.f0, .int .i64 y23.1.f1, .slice A25 y23.1.f2.length c26] 24]) [2, 3, 4, 5, 6] 7 rfl rfl rfl) ?_
        refine TA.take 23 rfl (by kernel_rfl) rfl (PQ.then_ PQ.body) rfl (Val.move rfl) (fun W hO => (hb349 _ _ (hb364 _ _ hO)).selT (Ls := [Row k24 24 (.slice A3 y1.f2.length c4) y1.f2, Row k36 36 (.slice (some ⟨b14, 0, none⟩) 1 1) ([(⟨5, (⟨#[]⟩ : ByteArray), 0, ([] : List S36)⟩ : S36)] : List S36), Blk b34 [.int .i64 y29.1.f0, .int .i64 y29.1.f1, .slice A31 y29.1.f2.length c32] 24, Row k24 24 (.slice A31 y29.1.f2.length c32) y29.1.f2, Blk b28 [.int .i64 y23.1.f0, .int .i64 y23.1.f1, .slice A25 y23.1.f2.length c26] 24]) [2, 3, 4, 5, 6] 7 rfl rfl rfl) ?_
        refine TA.not 24 rfl (by kernel_rfl) rfl (PQ.then_ PQ.body) (Wt.no rfl rfl rfl rfl) (fun W hO => (hb349 _ _ (hb364 _ _ hO)).selT (Ls := [Row k24 24 (.slice A3 y1.f2.length c4) y1.f2, Row k36 36 (.slice (some ⟨b14, 0, none⟩) 1 1) ([(⟨5, (⟨#[]⟩ : ByteArray), 0, ([] : List S36)⟩ : S36)] : List S36), Blk b34 [.int .i64 y29.1.f0, .int .i64 y29.1.f1, .slice A31 y29.1.f2.length c32] 24, Row k24 24 (.slice A31 y29.1.f2.length c32) y29.1.f2, Blk b28 [.int .i64 y23.1.f0, .int .i64 y23.1.f1, .slice A25 y23.1.f2.length c26] 24]) [2, 3, 4, 5, 6] 7 rfl rfl rfl) ?_
        refine TA.not 25 rfl (by kernel_rfl) rfl (PQ.then_ PQ.body) (Wt.no rfl rfl rfl rfl) (fun W hO => (hb349 _ _ (hb364 _ _ hO)).selT (Ls := [Row k24 24 (.slice A3 y1.f2.length c4) y1.f2, Row k36 36 (.slice (some ⟨b14, 0, none⟩) 1 1) ([(⟨5, (⟨#[]⟩ : ByteArray), 0, ([] : List S36)⟩ : S36)] : List S36), Blk b34 [.int .i64 y29.1.f0, .int .i64 y29.1.f1, .slice A31 y29.1.f2.length c32] 24, Row k24 24 (.slice A31 y29.1.f2.length c32) y29.1.f2, Blk b28 [.int .i64 y23.1.f0, .int .i64 y23.1.f1, .slice A25 y23.1.f2.length c26] 24]) [2, 3, 4, 5, 6] 7 rfl rfl rfl) ?_
        refine TA.not 26 rfl (by kernel_rfl) rfl (PQ.then_ PQ.body) (Wt.no rfl rfl rfl rfl) (fun W hO => (hb349 _ _ (hb364 _ _ hO)).selT (Ls := [Row k24 24 (.slice A3 y1.f2.length c4) y1.f2, Row k36 36 (.slice (some ⟨b14, 0, none⟩) 1 1) ([(⟨5, (⟨#[]⟩ : ByteArray), 0, ([] : List S36)⟩ : S36)] : List S36), Blk b34 [.int .i64 y29.1.f0, .int .i64 y29.1.f1, .slice A31 y29.1.f2.length c32] 24, Row k24 24 (.slice A31 y29.1.f2.length c32) y29.1.f2, Blk b28 [.int .i64 y23.1.f0, .int .i64 y23.1.f1, .slice A25 y23.1.f2.length c26] 24]) [2, 3, 4, 5, 6] 7 rfl rfl rfl) ?_
        refine TA.not 27 rfl (by kernel_rfl) rfl (PQ.then_ PQ.body) (Wt.no rfl rfl rfl rfl) (fun W hO => (hb349 _ _ (hb364 _ _ hO)).selT (Ls := [Row k24 24 (.slice A3 y1.f2.length c4) y1.f2, Row k36 36 (.slice (some ⟨b14, 0, none⟩) 1 1) ([(⟨5, (⟨#[]⟩ : ByteArray), 0, ([] : List S36)⟩ : S36)] : List S36), Blk b34 [.int .i64 y29.1.f0, .int .i64 y29.1.f1, .slice A31 y29.1.f2.length c32] 24, Row k24 24 (.slice A31 y29.1.f2.length c32) y29.1.f2, Blk b28 [.int .i64 y23.1.f0, .int .i64 y23.1.f1, .slice A25 y23.1.f2.length c26] 24]) [2, 3, 4, 5, 6] 7 rfl rfl rfl) ?_
        refine TA.take 28 rfl (by kernel_rfl) rfl (PQ.then_ PQ.body) rfl (Val.pickN rfl rfl rfl) (fun W hO => (hb349 _ _ (hb364 _ _ hO)).selT (Ls := [Row k24 24 (.slice A3 y1.f2.length c4) y1.f2, Row k36 36 (.slice (some ⟨b14, 0, none⟩) 1 1) ([(⟨5, (⟨#[]⟩ : ByteArray), 0, ([] : List S36)⟩ : S36)] : List S36), Blk b34 [.int .i64 y29.1.f0, .int .i64 y29.1.f1, .slice A31 y29.1.f2.length c32] 24, Row k24 24 (.slice A31 y29.1.f2.length c32) y29.1.f2, Blk b28 [.int .i64 y23.1.f0, .int .i64 y23.1.f1, .slice A25 y23.1.f2.length c26] 24]) [2, 3, 4, 5, 6] 7 rfl rfl rfl) ?_
        refine TA.take 29 rfl (by kernel_rfl) rfl (PQ.then_ PQ.body) rfl (Val.move rfl) (fun W hO => (hb349 _ _ (hb364 _ _ hO)).selT (Ls := [Row k24 24 (.slice A3 y1.f2.length c4) y1.f2, Row k36 36 (.slice (some ⟨b14, 0, none⟩) 1 1) ([(⟨5, (⟨#[]⟩ : ByteArray), 0, ([] : List S36)⟩ : S36)] : List S36), Blk b34 [.int .i64 y29.1.f0, .int .i64 y29.1.f1, .slice A31 y29.1.f2.length c32] 24, Row k24 24 (.slice A31 y29.1.f2.length c32) y29.1.f2, Blk b28 [.int .i64 y23.1.f0, .int .i64 y23.1.f1, .slice A25 y23.1.f2.length c26] 24]) [2, 3, 4, 5, 6] 7 rfl rfl rfl) ?_
        refine TA.not 30 rfl (by kernel_rfl) rfl (PQ.then_ PQ.body) (Wt.no rfl rfl rfl rfl) (fun W hO => (hb349 _ _ (hb364 _ _ hO)).selT (Ls := [Row k24 24 (.slice A3 y1.f2.length c4) y1.f2, Row k36 36 (.slice (some ⟨b14, 0, none⟩) 1 1) ([(⟨5, (⟨#[]⟩ : ByteArray), 0, ([] : List S36)⟩ : S36)] : List S36), Blk b34 [.int .i64 y29.1.f0, .int .i64 y29.1.f1, .slice A31 y29.1.f2.length c32] 24, Row k24 24 (.slice A31 y29.1.f2.length c32) y29.1.f2, Blk b28 [.int .i64 y23.1.f0, .int .i64 y23.1.f1, .slice A25 y23.1.f2.length c26] 24]) [2, 3, 4, 5, 6] 7 rfl rfl rfl) ?_
        refine TA.not 31 rfl (by kernel_rfl) rfl (PQ.then_ PQ.body) (Wt.no rfl rfl rfl rfl) (fun W hO => (hb349 _ _ (hb364 _ _ hO)).selT (Ls := [Row k24 24 (.slice A3 y1.f2.length c4) y1.f2, Row k36 36 (.slice (some ⟨b14, 0, none⟩) 1 1) ([(⟨5, (⟨#[]⟩ : ByteArray), 0, ([] : List S36)⟩ : S36)] : List S36), Blk b34 [.int .i64 y29.1.f0, .int .i64 y29.1.f1, .slice A31 y29.1.f2.length c32] 24, Row k24 24 (.slice A31 y29.1.f2.length c32) y29.1.f2, Blk b28 [.int .i64 y23.1.f0, .int .i64 y23.1.f1, .slice A25 y23.1.f2.length c26] 24]) [2, 3, 4, 5, 6] 7 rfl rfl rfl) ?_
        refine TA.take 32 rfl (by kernel_rfl) rfl (PQ.then_ PQ.body) rfl (Val.pickN rfl rfl rfl) (fun W hO => (hb349 _ _ (hb364 _ _ hO)).selT (Ls := [Row k24 24 (.slice A3 y1.f2.length c4) y1.f2, Row k36 36 (.slice (some ⟨b14, 0, none⟩) 1 1) ([(⟨5, (⟨#[]⟩ : ByteArray), 0, ([] : List S36)⟩ : S36)] : List S36), Blk b34 [.int .i64 y29.1.f0, .int .i64 y29.1.f1, .slice A31 y29.1.f2.length c32] 24, Row k24 24 (.slice A31 y29.1.f2.length c32) y29.1.f2, Blk b28 [.int .i64 y23.1.f0, .int .i64 y23.1.f1, .slice A25 y23.1.f2.length c26] 24]) [2, 3, 4, 5, 6] 7 rfl rfl rfl) ?_
        refine TA.take 33 rfl (by kernel_rfl) rfl (PQ.then_ PQ.body) rfl (Val.move rfl) (fun W hO => (hb349 _ _ (hb364 _ _ hO)).selT (Ls := [Row k24 24 (.slice A3 y1.f2.length c4) y1.f2, Row k36 36 (.slice (some ⟨b14, 0, none⟩) 1 1) ([(⟨5, (⟨#[]⟩ : ByteArray), 0, ([] : List S36)⟩ : S36)] : List S36), Blk b34 [.int .i64 y29.1.f0, .int .i64 y29.1.f1, .slice A31 y29.1.f2.length c32] 24, Row k24 24 (.slice A31 y29.1.f2.length c32) y29.1.f2, Blk b28 [.int .i64 y23.1.f0, .int .i64 y23.1.f1, .slice A25 y23.1.f2.length c26] 24]) [2, 3, 4, 5, 6] 7 rfl rfl rfl) ?_
        refine TA.not 34 rfl (by kernel_rfl) rfl (PQ.then_ PQ.body) (Wt.no rfl rfl rfl rfl) (fun W hO => (hb349 _ _ (hb364 _ _ hO)).selT (Ls := [Row k24 24 (.slice A3 y1.f2.length c4) y1.f2, Row k36 36 (.slice (some ⟨b14, 0, none⟩) 1 1) ([(⟨5, (⟨#[]⟩ : ByteArray), 0, ([] : List S36)⟩ : S36)] : List S36), Blk b34 [.int .i64 y29.1.f0, .int .i64 y29.1.f1, .slice A31 y29.1.f2.length c32] 24, Row k24 24 (.slice A31 y29.1.f2.length c32) y29.1.f2, Blk b28 [.int .i64 y23.1.f0, .int .i64 y23.1.f1, .slice A25 y23.1.f2.length c26] 24]) [2, 3, 4, 5, 6] 7 rfl rfl rfl) ?_
        refine TA.not 35 rfl (by kernel_rfl) rfl (PQ.then_ PQ.body) (Wt.no rfl rfl rfl rfl) (fun W hO => (hb349 _ _ (hb364 _ _ hO)).selT (Ls := [Row k24 24 (.slice A3 y1.f2.length c4) y1.f2, Row k36 36 (.slice (some ⟨b14, 0, none⟩) 1 1) ([(⟨5, (⟨#[]⟩ : ByteArray), 0, ([] : List S36)⟩ : S36)] : List S36), Blk b34 [.int .i64 y29.1.f0, .int .i64 y29.1.f1, .slice A31 y29.1.f2.length c32] 24, Row k24 24 (.slice A31 y29.1.f2.length c32) y29.1.f2, Blk b28 [.int .i64 y23.1.f0, .int .i64 y23.1.f1, .slice A25 y23.1.f2.length c26] 24]) [2, 3, 4, 5, 6] 7 rfl rfl rfl) ?_
        refine TA.take 36 rfl (by kernel_rfl) rfl (PQ.then_ PQ.body) rfl (Val.pickN rfl rfl rfl) (fun W hO => (hb349 _ _ (hb364 _ _ hO)).selT (Ls := [Row k24 24 (.slice A3 y1.f2.length c4) y1.f2, Row k36 36 (.slice (some ⟨b14, 0, none⟩) 1 1) ([(⟨5, (⟨#[]⟩ : ByteArray), 0, ([] : List S36)⟩ : S36)] : List S36), Blk b34 [.int .i64 y29.1.f0, .int .i64 y29.1.f1, .slice A31 y29.1.f2.length c32] 24, Row k24 24 (.slice A31 y29.1.f2.length c32) y29.1.f2, Blk b28 [.int .i64 y23.1.f0, .int .i64 y23.1.f1, .slice A25 y23.1.f2.length c26] 24]) [2, 3, 4, 5, 6] 7 rfl rfl rfl) ?_
        refine TA.take 37 rfl (by kernel_rfl) rfl (PQ.then_ PQ.body) rfl (Val.move rfl) (fun W hO => (hb349 _ _ (hb364 _ _ hO)).selT (Ls := [Row k24 24 (.slice A3 y1.f2.length c4) y1.f2, Row k36 36 (.slice (some ⟨b14, 0, none⟩) 1 1) ([(⟨5, (⟨#[]⟩ : ByteArray), 0, ([] : List S36)⟩ : S36)] : List S36), Blk b34 [.int .i64 y29.1.f0, .int .i64 y29.1.f1, .slice A31 y29.1.f2.length c32] 24, Row k24 24 (.slice A31 y29.1.f2.length c32) y29.1.f2, Blk b28 [.int .i64 y23.1.f0, .int .i64 y23.1.f1, .slice A25 y23.1.f2.length c26] 24]) [2, 3, 4, 5, 6] 7 rfl rfl rfl) ?_
        refine TA.not 38 rfl (by kernel_rfl) rfl (PQ.then_ PQ.body) (Wt.no rfl rfl rfl rfl) (fun W hO => (hb349 _ _ (hb364 _ _ hO)).selT (Ls := [Row k24 24 (.slice A3 y1.f2.length c4) y1.f2, Row k36 36 (.slice (some ⟨b14, 0, none⟩) 1 1) ([(⟨5, (⟨#[]⟩ : ByteArray), 0, ([] : List S36)⟩ : S36)] : List S36), Blk b34 [.int .i64 y29.1.f0, .int .i64 y29.1.f1, .slice A31 y29.1.f2.length c32] 24, Row k24 24 (.slice A31 y29.1.f2.length c32) y29.1.f2, Blk b28 [.int .i64 y23.1.f0, .int .i64 y23.1.f1, .slice A25 y23.1.f2.length c26] 24]) [2, 3, 4, 5, 6] 7 rfl rfl rfl) ?_
        refine TA.not 39 rfl (by kernel_rfl) rfl (PQ.then_ PQ.body) (Wt.no rfl rfl rfl rfl) (fun W hO => (hb349 _ _ (hb364 _ _ hO)).selT (Ls := [Row k24 24 (.slice A3 y1.f2.length c4) y1.f2, Row k36 36 (.slice (some ⟨b14, 0, none⟩) 1 1) ([(⟨5, (⟨#[]⟩ : ByteArray), 0, ([] : List S36)⟩ : S36)] : List S36), Blk b34 [.int .i64 y29.1.f0, .int .i64 y29.1.f1, .slice A31 y29.1.f2.length c32] 24, Row k24 24 (.slice A31 y29.1.f2.length c32) y29.1.f2, Blk b28 [.int .i64 y23.1.f0, .int .i64 y23.1.f1, .slice A25 y23.1.f2.length c26] 24]) [2, 3, 4, 5, 6] 7 rfl rfl rfl) ?_
        refine TA.not 40 rfl (by kernel_rfl) rfl (PQ.then_ PQ.body) (Wt.no rfl rfl rfl rfl) (fun W hO => (hb349 _ _ (hb364 _ _ hO)).selT (Ls := [Row k24 24 (.slice A3 y1.f2.length c4) y1.f2, Row k36 36 (.slice (some ⟨b14, 0, none⟩) 1 1) ([(⟨5, (⟨#[]⟩ : ByteArray), 0, ([] : List S36)⟩ : S36)] : List S36), Blk b34 [.int .i64 y29.1.f0, .int .i64 y29.1.f1, .slice A31 y29.1.f2.length c32] 24, Row k24 24 (.slice A31 y29.1.f2.length c32) y29.1.f2, Blk b28 [.int .i64 y23.1.f0, .int .i64 y23.1.f1, .slice A25 y23.1.f2.length c26] 24]) [2, 3, 4, 5, 6] 7 rfl rfl rfl) ?_
        refine TA.take 41 rfl (by kernel_rfl) rfl (PQ.then_ PQ.body) rfl (Val.pickN rfl rfl rfl) (fun W hO => (hb349 _ _ (hb364 _ _ hO)).selT (Ls := [Row k24 24 (.slice A3 y1.f2.length c4) y1.f2, Row k36 36 (.slice (some ⟨b14, 0, none⟩) 1 1) ([(⟨5, (⟨#[]⟩ : ByteArray), 0, ([] : List S36)⟩ : S36)] : List S36), Blk b34 [.int .i64 y29.1.f0, .int .i64 y29.1.f1, .slice A31 y29.1.f2.length c32] 24, Row k24 24 (.slice A31 y29.1.f2.length c32) y29.1.f2, Blk b28 [.int .i64 y23.1.f0, .int .i64 y23.1.f1, .slice A25 y23.1.f2.length c26] 24]) [2, 3, 4, 5, 6] 7 rfl rfl rfl) ?_
        refine TA.take 42 rfl (by kernel_rfl) rfl (PQ.then_ PQ.body) rfl (Val.assign rfl) (fun W hO => (hb349 _ _ (hb364 _ _ hO)).selT (Ls := [Row k24 24 (.slice A3 y1.f2.length c4) y1.f2, Row k36 36 (.slice (some ⟨b14, 0, none⟩) 1 1) ([(⟨5, (⟨#[]⟩ : ByteArray), 0, ([] : List S36)⟩ : S36)] : List S36), Blk b34 [.int .i64 y29.1.f0, .int .i64 y29.1.f1, .slice A31 y29.1.f2.length c32] 24, Row k24 24 (.slice A31 y29.1.f2.length c32) y29.1.f2, Blk b28 [.int .i64 y23.1.f0, .int .i64 y23.1.f1, .slice A25 y23.1.f2.length c26] 24]) [2, 3, 4, 5, 6] 7 rfl rfl rfl) ?_
        refine TA.done (by kernel_rfl) ?_
        refine TQ.then_ ?_
        refine TC.ret ?_
        refine TQ.back hb364 ?_
        refine TQ.back hb349 ?_
        refine TQ.back hb338 ?_
        obtain rfl := Option.some.inj h
        exact TQ.fin (.inl rfl) rfl Tryd.results7 (.tmp rfl .nil) rfl (FRel.mk (Ls := []) [] 8 (Gd.le.refl _) rfl rfl rfl ⟨rfl, rfl, rfl⟩)
    · have hk433 : decide (y367 = 5) = false := decide_eq_false hg369
      refine TA.not 8 rfl (by kernel_rfl) rfl (PQ.then_ PQ.body) (Wt.no rfl rfl rfl hk433) (fun W hO => (hb349 _ _ (hb364 _ _ hO)).selT (Ls := [Row k24 24 (.slice A3 y1.f2.length c4) y1.f2, Row k36 36 (.slice (some ⟨b14, 0, none⟩) 1 1) ([(⟨5, (⟨#[]⟩ : ByteArray), 0, ([] : List S36)⟩ : S36)] : List S36), Blk b34 [.int .i64 y29.1.f0, .int .i64 y29.1.f1, .slice A31 y29.1.f2.length c32] 24, Row k24 24 (.slice A31 y29.1.f2.length c32) y29.1.f2, Blk b28 [.int .i64 y23.1.f0, .int .i64 y23.1.f1, .slice A25 y23.1.f2.length c26] 24]) [2, 3, 4, 5, 6] 7 rfl rfl rfl) ?_
      refine TA.not 9 rfl (by kernel_rfl) rfl (PQ.then_ PQ.body) (Wt.no rfl rfl rfl hk433) (fun W hO => (hb349 _ _ (hb364 _ _ hO)).selT (Ls := [Row k24 24 (.slice A3 y1.f2.length c4) y1.f2, Row k36 36 (.slice (some ⟨b14, 0, none⟩) 1 1) ([(⟨5, (⟨#[]⟩ : ByteArray), 0, ([] : List S36)⟩ : S36)] : List S36), Blk b34 [.int .i64 y29.1.f0, .int .i64 y29.1.f1, .slice A31 y29.1.f2.length c32] 24, Row k24 24 (.slice A31 y29.1.f2.length c32) y29.1.f2, Blk b28 [.int .i64 y23.1.f0, .int .i64 y23.1.f1, .slice A25 y23.1.f2.length c26] 24]) [2, 3, 4, 5, 6] 7 rfl rfl rfl) ?_
      refine TA.take 10 rfl (by kernel_rfl) rfl (PQ.then_ PQ.body) rfl (Val.pickN rfl hk433 rfl) (fun W hO => (hb349 _ _ (hb364 _ _ hO)).selT (Ls := [Row k24 24 (.slice A3 y1.f2.length c4) y1.f2, Row k36 36 (.slice (some ⟨b14, 0, none⟩) 1 1) ([(⟨5, (⟨#[]⟩ : ByteArray), 0, ([] : List S36)⟩ : S36)] : List S36), Blk b34 [.int .i64 y29.1.f0, .int .i64 y29.1.f1, .slice A31 y29.1.f2.length c32] 24, Row k24 24 (.slice A31 y29.1.f2.length c32) y29.1.f2, Blk b28 [.int .i64 y23.1.f0, .int .i64 y23.1.f1, .slice A25 y23.1.f2.length c26] 24]) [2, 3, 4, 5, 6] 7 rfl rfl rfl) ?_
      refine TA.take 11 rfl (by kernel_rfl) rfl (PQ.then_ PQ.body) rfl (Val.move rfl) (fun W hO => (hb349 _ _ (hb364 _ _ hO)).selT (Ls := [Row k24 24 (.slice A3 y1.f2.length c4) y1.f2, Row k36 36 (.slice (some ⟨b14, 0, none⟩) 1 1) ([(⟨5, (⟨#[]⟩ : ByteArray), 0, ([] : List S36)⟩ : S36)] : List S36), Blk b34 [.int .i64 y29.1.f0, .int .i64 y29.1.f1, .slice A31 y29.1.f2.length c32] 24, Row k24 24 (.slice A31 y29.1.f2.length c32) y29.1.f2, Blk b28 [.int .i64 y23.1.f0, .int .i64 y23.1.f1, .slice A25 y23.1.f2.length c26] 24]) [2, 3, 4, 5, 6] 7 rfl rfl rfl) ?_
      refine TA.not 12 rfl (by kernel_rfl) rfl (PQ.then_ PQ.body) (Wt.no rfl rfl rfl rfl) (fun W hO => (hb349 _ _ (hb364 _ _ hO)).selT (Ls := [Row k24 24 (.slice A3 y1.f2.length c4) y1.f2, Row k36 36 (.slice (some ⟨b14, 0, none⟩) 1 1) ([(⟨5, (⟨#[]⟩ : ByteArray), 0, ([] : List S36)⟩ : S36)] : List S36), Blk b34 [.int .i64 y29.1.f0, .int .i64 y29.1.f1, .slice A31 y29.1.f2.length c32] 24, Row k24 24 (.slice A31 y29.1.f2.length c32) y29.1.f2, Blk b28 [.int .i64 y23.1.f0, .int .i64 y23.1.f1, .slice A25 y23.1.f2.length c26] 24]) [2, 3, 4, 5, 6] 7 rfl rfl rfl) ?_
      refine TA.take 13 rfl (by kernel_rfl) rfl (PQ.then_ PQ.body) rfl (Val.pickN rfl rfl rfl) (fun W hO => (hb349 _ _ (hb364 _ _ hO)).selT (Ls := [Row k24 24 (.slice A3 y1.f2.length c4) y1.f2, Row k36 36 (.slice (some ⟨b14, 0, none⟩) 1 1) ([(⟨5, (⟨#[]⟩ : ByteArray), 0, ([] : List S36)⟩ : S36)] : List S36), Blk b34 [.int .i64 y29.1.f0, .int .i64 y29.1.f1, .slice A31 y29.1.f2.length c32] 24, Row k24 24 (.slice A31 y29.1.f2.length c32) y29.1.f2, Blk b28 [.int .i64 y23.1.f0, .int .i64 y23.1.f1, .slice A25 y23.1.f2.length c26] 24]) [2, 3, 4, 5, 6] 7 rfl rfl rfl) ?_
      refine TA.take 14 rfl (by kernel_rfl) rfl (PQ.then_ PQ.body) rfl (Val.move rfl) (fun W hO => (hb349 _ _ (hb364 _ _ hO)).selT (Ls := [Row k24 24 (.slice A3 y1.f2.length c4) y1.f2, Row k36 36 (.slice (some ⟨b14, 0, none⟩) 1 1) ([(⟨5, (⟨#[]⟩ : ByteArray), 0, ([] : List S36)⟩ : S36)] : List S36), Blk b34 [.int .i64 y29.1.f0, .int .i64 y29.1.f1, .slice A31 y29.1.f2.length c32] 24, Row k24 24 (.slice A31 y29.1.f2.length c32) y29.1.f2, Blk b28 [.int .i64 y23.1.f0, .int .i64 y23.1.f1, .slice A25 y23.1.f2.length c26] 24]) [2, 3, 4, 5, 6] 7 rfl rfl rfl) ?_
      refine TA.not 15 rfl (by kernel_rfl) rfl (PQ.then_ PQ.body) (Wt.no rfl rfl rfl rfl) (fun W hO => (hb349 _ _ (hb364 _ _ hO)).selT (Ls := [Row k24 24 (.slice A3 y1.f2.length c4) y1.f2, Row k36 36 (.slice (some ⟨b14, 0, none⟩) 1 1) ([(⟨5, (⟨#[]⟩ : ByteArray), 0, ([] : List S36)⟩ : S36)] : List S36), Blk b34 [.int .i64 y29.1.f0, .int .i64 y29.1.f1, .slice A31 y29.1.f2.length c32] 24, Row k24 24 (.slice A31 y29.1.f2.length c32) y29.1.f2, Blk b28 [.int .i64 y23.1.f0, .int .i64 y23.1.f1, .slice A25 y23.1.f2.length c26] 24]) [2, 3, 4, 5, 6] 7 rfl rfl rfl) ?_
      refine TA.not 16 rfl (by kernel_rfl) rfl (PQ.then_ PQ.body) (Wt.no rfl rfl rfl rfl) (fun W hO => (hb349 _ _ (hb364 _ _ hO)).selT (Ls := [Row k24 24 (.slice A3 y1.f2.length c4) y1.f2, Row k36 36 (.slice (some ⟨b14, 0, none⟩) 1 1) ([(⟨5, (⟨#[]⟩ : ByteArray), 0, ([] : List S36)⟩ : S36)] : List S36), Blk b34 [.int .i64 y29.1.f0, .int .i64 y29.1.f1, .slice A31 y29.1.f2.length c32] 24, Row k24 24 (.slice A31 y29.1.f2.length c32) y29.1.f2, Blk b28 [.int .i64 y23.1.f0, .int .i64 y23.1.f1, .slice A25 y23.1.f2.length c26] 24]) [2, 3, 4, 5, 6] 7 rfl rfl rfl) ?_
      refine TA.not 17 rfl (by kernel_rfl) rfl (PQ.then_ PQ.body) (Wt.no rfl rfl rfl rfl) (fun W hO => (hb349 _ _ (hb364 _ _ hO)).selT (Ls := [Row k24 24 (.slice A3 y1.f2.length c4) y1.f2, Row k36 36 (.slice (some ⟨b14, 0, none⟩) 1 1) ([(⟨5, (⟨#[]⟩ : ByteArray), 0, ([] : List S36)⟩ : S36)] : List S36), Blk b34 [.int .i64 y29.1.f0, .int .i64 y29.1.f1, .slice A31 y29.1.f2.length c32] 24, Row k24 24 (.slice A31 y29.1.f2.length c32) y29.1.f2, Blk b28 [.int .i64 y23.1.f0, .int .i64 y23.1.f1, .slice A25 y23.1.f2.length c26] 24]) [2, 3, 4, 5, 6] 7 rfl rfl rfl) ?_
      refine TA.take 18 rfl (by kernel_rfl) rfl (PQ.then_ PQ.body) rfl (Val.pickN rfl rfl rfl) (fun W hO => (hb349 _ _ (hb364 _ _ hO)).selT (Ls := [Row k24 24 (.slice A3 y1.f2.length c4) y1.f2, Row k36 36 (.slice (some ⟨b14, 0, none⟩) 1 1) ([(⟨5, (⟨#[]⟩ : ByteArray), 0, ([] : List S36)⟩ : S36)] : List S36), Blk b34 [.int .i64 y29.1.f0, .int .i64 y29.1.f1, .slice A31 y29.1.f2.length c32] 24, Row k24 24 (.slice A31 y29.1.f2.length c32) y29.1.f2, Blk b28 [.int .i64 y23.1.f0, .int .i64 y23.1.f1, .slice A25 y23.1.f2.length c26] 24]) [2, 3, 4, 5, 6] 7 rfl rfl rfl) ?_
      refine TA.take 19 rfl (by kernel_rfl) rfl (PQ.then_ PQ.body) rfl (Val.move rfl) (fun W hO => (hb349 _ _ (hb364 _ _ hO)).selT (Ls := [Row k24 24 (.slice A3 y1.f2.length c4) y1.f2, Row k36 36 (.slice (some ⟨b14, 0, none⟩) 1 1) ([(⟨5, (⟨#[]⟩ : ByteArray), 0, ([] : List S36)⟩ : S36)] : List S36), Blk b34 [.int .i64 y29.1.f0, .int .i64 y29.1.f1, .slice A31 y29.1.f2.length c32] 24, Row k24 24 (.slice A31 y29.1.f2.length c32) y29.1.f2, Blk b28 [.int .i64 y23.1.f0, .int .i64 y23.1.f1, .slice A25 y23.1.f2.length c26] 24]) [2, 3, 4, 5, 6] 7 rfl rfl rfl) ?_
      refine TA.not 20 rfl (by kernel_rfl) rfl (PQ.then_ PQ.body) (Wt.no rfl rfl rfl rfl) (fun W hO => (hb349 _ _ (hb364 _ _ hO)).selT (Ls := [Row k24 24 (.slice A3 y1.f2.length c4) y1.f2, Row k36 36 (.slice (some ⟨b14, 0, none⟩) 1 1) ([(⟨5, (⟨#[]⟩ : ByteArray), 0, ([] : List S36)⟩ : S36)] : List S36), Blk b34 [.int .i64 y29.1.f0, .int .i64 y29.1.f1, .slice A31 y29.1.f2.length c32] 24, Row k24 24 (.slice A31 y29.1.f2.length c32) y29.1.f2, Blk b28 [.int .i64 y23.1.f0, .int .i64 y23.1.f1, .slice A25 y23.1.f2.length c26] 24]) [2, 3, 4, 5, 6] 7 rfl rfl rfl) ?_
      refine TA.not 21 rfl (by kernel_rfl) rfl (PQ.then_ PQ.body) (Wt.no rfl rfl rfl rfl) (fun W hO => (hb349 _ _ (hb364 _ _ hO)).selT (Ls := [Row k24 24 (.slice A3 y1.f2.length c4) y1.f2, Row k36 36 (.slice (some ⟨b14, 0, none⟩) 1 1) ([(⟨5, (⟨#[]⟩ : ByteArray), 0, ([] : List S36)⟩ : S36)] : List S36), Blk b34 [.int .i64 y29.1.f0, .int .i64 y29.1.f1, .slice A31 y29.1.f2.length c32] 24, Row k24 24 (.slice A31 y29.1.f2.length c32) y29.1.f2, Blk b28 [.int .i64 y23.1.f0, .int .i64 y23.1.f1, .slice A25 y23.1.f2.length c26] 24]) [2, 3, 4, 5, 6] 7 rfl rfl rfl) ?_
      refine TA.take 22 rfl (by kernel_rfl) rfl (PQ.then_ PQ.body) rfl (Val.pickN rfl rfl rfl) (fun W hO => (hb349 _ _ (hb364 _ _ hO)).selT (Ls := [Row k24 24 (.slice A3 y1.f2.length c4) y1.f2, Row k36 36 (.slice (some ⟨b14, 0, none⟩) 1 1) ([(⟨5, (⟨#[]⟩ : ByteArray), 0, ([] : List S36)⟩ : S36)] : List S36), Blk b34 [.int .i64 y29.1.f0, .int .i64 y29.1.f1, .slice A31 y29.1.f2.length c32] 24, Row k24 24 (.slice A31 y29.1.f2.length c32) y29.1.f2, Blk b28 [.int .i64 y23.1.f0, .int .i64 y23.1.f1, .slice A25 y23.1.f2.length c26] 24]) [2, 3, 4, 5, 6] 7 rfl rfl rfl) ?_
      refine TA.take 23 rfl (by kernel_rfl) rfl (PQ.then_ PQ.body) rfl (Val.move rfl) (fun W hO => (hb349 _ _ (hb364 _ _ hO)).selT (Ls := [Row k24 24 (.slice A3 y1.f2.length c4) y1.f2, Row k36 36 (.slice (some ⟨b14, 0, none⟩) 1 1) ([(⟨5, (⟨#[]⟩ : ByteArray), 0, ([] : List S36)⟩ : S36)] : List S36), Blk b34 [.int .i64 y29.1.f0, .int .i64 y29.1.f1, .slice A31 y29.1.f2.length c32] 24, Row k24 24 (.slice A31 y29.1.f2.length c32) y29.1.f2, Blk b28 [.int .i64 y23.1.f0, .int .i64 y23.1.f1, .slice A25 y23.1.f2.length c26] 24]) [2, 3, 4, 5, 6] 7 rfl rfl rfl) ?_
      refine TA.not 24 rfl (by kernel_rfl) rfl (PQ.then_ PQ.body) (Wt.no rfl rfl rfl rfl) (fun W hO => (hb349 _ _ (hb364 _ _ hO)).selT (Ls := [Row k24 24 (.slice A3 y1.f2.length c4) y1.f2, Row k36 36 (.slice (some ⟨b14, 0, none⟩) 1 1) ([(⟨5, (⟨#[]⟩ : ByteArray), 0, ([] : List S36)⟩ : S36)] : List S36), Blk b34 [.int .i64 y29.1.f0, .int .i64 y29.1.f1, .slice A31 y29.1.f2.length c32] 24, Row k24 24 (.slice A31 y29.1.f2.length c32) y29.1.f2, Blk b28 [.int .i64 y23.1.f0, .int .i64 y23.1.f1, .slice A25 y23.1.f2.length c26] 24]) [2, 3, 4, 5, 6] 7 rfl rfl rfl) ?_
      refine TA.not 25 rfl (by kernel_rfl) rfl (PQ.then_ PQ.body) (Wt.no rfl rfl rfl rfl) (fun W hO => (hb349 _ _ (hb364 _ _ hO)).selT (Ls := [Row k24 24 (.slice A3 y1.f2.length c4) y1.f2, Row k36 36 (.slice (some ⟨b14, 0, none⟩) 1 1) ([(⟨5, (⟨#[]⟩ : ByteArray), 0, ([] : List S36)⟩ : S36)] : List S36), Blk b34 [.int .i64 y29.1.f0, .int .i64 y29.1.f1, .slice A31 y29.1.f2.length c32] 24, Row k24 24 (.slice A31 y29.1.f2.length c32) y29.1.f2, Blk b28 [.int .i64 y23.1.f0, .int .i64 y23.1.f1, .slice A25 y23.1.f2.length c26] 24]) [2, 3, 4, 5, 6] 7 rfl rfl rfl) ?_
      refine TA.not 26 rfl (by kernel_rfl) rfl (PQ.then_ PQ.body) (Wt.no rfl rfl rfl rfl) (fun W hO => (hb349 _ _ (hb364 _ _ hO)).selT (Ls := [Row k24 24 (.slice A3 y1.f2.length c4) y1.f2, Row k36 36 (.slice (some ⟨b14, 0, none⟩) 1 1) ([(⟨5, (⟨#[]⟩ : ByteArray), 0, ([] : List S36)⟩ : S36)] : List S36), Blk b34 [.int .i64 y29.1.f0, .int .i64 y29.1.f1, .slice A31 y29.1.f2.length c32] 24, Row k24 24 (.slice A31 y29.1.f2.length c32) y29.1.f2, Blk b28 [.int .i64 y23.1.f0, .int .i64 y23.1.f1, .slice A25 y23.1.f2.length c26] 24]) [2, 3, 4, 5, 6] 7 rfl rfl rfl) ?_
      refine TA.not 27 rfl (by kernel_rfl) rfl (PQ.then_ PQ.body) (Wt.no rfl rfl rfl rfl) (fun W hO => (hb349 _ _ (hb364 _ _ hO)).selT (Ls := [Row k24 24 (.slice A3 y1.f2.length c4) y1.f2, Row k36 36 (.slice (some ⟨b14, 0, none⟩) 1 1) ([(⟨5, (⟨#[]⟩ : ByteArray), 0, ([] : List S36)⟩ : S36)] : List S36), Blk b34 [.int .i64 y29.1.f0, .int .i64 y29.1.f1, .slice A31 y29.1.f2.length c32] 24, Row k24 24 (.slice A31 y29.1.f2.length c32) y29.1.f2, Blk b28 [.int .i64 y23.1.f0, .int .i64 y23.1.f1, .slice A25 y23.1.f2.length c26] 24]) [2, 3, 4, 5, 6] 7 rfl rfl rfl) ?_
      refine TA.take 28 rfl (by kernel_rfl) rfl (PQ.then_ PQ.body) rfl (Val.pickN rfl rfl rfl) (fun W hO => (hb349 _ _ (hb364 _ _ hO)).selT (Ls := [Row k24 24 (.slice A3 y1.f2.length c4) y1.f2, Row k36 36 (.slice (some ⟨b14, 0, none⟩) 1 1) ([(⟨5, (⟨#[]⟩ : ByteArray), 0, ([] : List S36)⟩ : S36)] : List S36), Blk b34 [.int .i64 y29.1.f0, .int .i64 y29.1.f1, .slice A31 y29.1.f2.length c32] 24, Row k24 24 (.slice A31 y29.1.f2.length c32) y29.1.f2, Blk b28 [.int .i64 y23.1.f0, .int .i64 y23.1.f1, .slice A25 y23.1.f2.length c26] 24]) [2, 3, 4, 5, 6] 7 rfl rfl rfl) ?_
      refine TA.take 29 rfl (by kernel_rfl) rfl (PQ.then_ PQ.body) rfl (Val.move rfl) (fun W hO => (hb349 _ _ (hb364 _ _ hO)).selT (Ls := [Row k24 24 (.slice A3 y1.f2.length c4) y1.f2, Row k36 36 (.slice (some ⟨b14, 0, none⟩) 1 1) ([(⟨5, (⟨#[]⟩ : ByteArray), 0, ([] : List S36)⟩ : S36)] : List S36), Blk b34 [.int .i64 y29.1.f0, .int .i64 y29.1.f1, .slice A31 y29.1.f2.length c32] 24, Row k24 24 (.slice A31 y29.1.f2.length c32) y29.1.f2, Blk b28 [.int .i64 y23.1.f0, .int .i64 y23.1.f1, .slice A25 y23.1.f2.length c26] 24]) [2, 3, 4, 5, 6] 7 rfl rfl rfl) ?_
      refine TA.not 30 rfl (by kernel_rfl) rfl (PQ.then_ PQ.body) (Wt.no rfl rfl rfl rfl) (fun W hO => (hb349 _ _ (hb364 _ _ hO)).selT (Ls := [Row k24 24 (.slice A3 y1.f2.length c4) y1.f2, Row k36 36 (.slice (some ⟨b14, 0, none⟩) 1 1) ([(⟨5, (⟨#[]⟩ : ByteArray), 0, ([] : List S36)⟩ : S36)] : List S36), Blk b34 [.int .i64 y29.1.f0, .int .i64 y29.1.f1, .slice A31 y29.1.f2.length c32] 24, Row k24 24 (.slice A31 y29.1.f2.length c32) y29.1.f2, Blk b28 [.int .i64 y23.1.f0, .int .i64 y23.1.f1, .slice A25 y23.1.f2.length c26] 24]) [2, 3, 4, 5, 6] 7 rfl rfl rfl) ?_
      refine TA.not 31 rfl (by kernel_rfl) rfl (PQ.then_ PQ.body) (Wt.no rfl rfl rfl rfl) (fun W hO => (hb349 _ _ (hb364 _ _ hO)).selT (Ls := [Row k24 24 (.slice A3 y1.f2.length c4) y1.f2, Row k36 36 (.slice (some ⟨b14, 0, none⟩) 1 1) ([(⟨5, (⟨#[]⟩ : ByteArray), 0, ([] : List S36)⟩ : S36)] : List S36), Blk b34 [.int .i64 y29.1.f0, .int .i64 y29.1.f1, .slice A31 y29.1.f2.length c32] 24, Row k24 24 (.slice A31 y29.1.f2.length c32) y29.1.f2, Blk b28 [.int .i64 y23.1.f0, .int .i64 y23.1.f1, .slice A25 y23.1.f2.length c26] 24]) [2, 3, 4, 5, 6] 7 rfl rfl rfl) ?_
      refine TA.take 32 rfl (by kernel_rfl) rfl (PQ.then_ PQ.body) rfl (Val.pickN rfl rfl rfl) (fun W hO => (hb349 _ _ (hb364 _ _ hO)).selT (Ls := [Row k24 24 (.slice A3 y1.f2.length c4) y1.f2, Row k36 36 (.slice (some ⟨b14, 0, none⟩) 1 1) ([(⟨5, (⟨#[]⟩ : ByteArray), 0, ([] : List S36)⟩ : S36)] : List S36), Blk b34 [.int .i64 y29.1.f0, .int .i64 y29.1.f1, .slice A31 y29.1.f2.length c32] 24, Row k24 24 (.slice A31 y29.1.f2.length c32) y29.1.f2, Blk b28 [.int .i64 y23.1.f0, .int .i64 y23.1.f1, .slice A25 y23.1.f2.length c26] 24]) [2, 3, 4, 5, 6] 7 rfl rfl rfl) ?_
      refine TA.take 33 rfl (by kernel_rfl) rfl (PQ.then_ PQ.body) rfl (Val.move rfl) (fun W hO => (hb349 _ _ (hb364 _ _ hO)).selT (Ls := [Row k24 24 (.slice A3 y1.f2.length c4) y1.f2, Row k36 36 (.slice (some ⟨b14, 0, none⟩) 1 1) ([(⟨5, (⟨#[]⟩ : ByteArray), 0, ([] : List S36)⟩ : S36)] : List S36), Blk b34 [.int .i64 y29.1.f0, .int .i64 y29.1.f1, .slice A31 y29.1.f2.length c32] 24, Row k24 24 (.slice A31 y29.1.f2.length c32) y29.1.f2, Blk b28 [.int .i64 y23.1.f0, .int .i64 y23.1.f1, .slice A25 y23.1.f2.length c26] 24]) [2, 3, 4, 5, 6] 7 rfl rfl rfl) ?_
      refine TA.not 34 rfl (by kernel_rfl) rfl (PQ.then_ PQ.body) (Wt.no rfl rfl rfl rfl) (fun W hO => (hb349 _ _ (hb364 _ _ hO)).selT (Ls := [Row k24 24 (.slice A3 y1.f2.length c4) y1.f2, Row k36 36 (.slice (some ⟨b14, 0, none⟩) 1 1) ([(⟨5, (⟨#[]⟩ : ByteArray), 0, ([] : List S36)⟩ : S36)] : List S36), Blk b34 [.int .i64 y29.1.f0, .int .i64 y29.1.f1, .slice A31 y29.1.f2.length c32] 24, Row k24 24 (.slice A31 y29.1.f2.length c32) y29.1.f2, Blk b28 [.int .i64 y23.1.f0, .int .i64 y23.1.f1, .slice A25 y23.1.f2.length c26] 24]) [2, 3, 4, 5, 6] 7 rfl rfl rfl) ?_
      refine TA.not 35 rfl (by kernel_rfl) rfl (PQ.then_ PQ.body) (Wt.no rfl rfl rfl rfl) (fun W hO => (hb349 _ _ (hb364 _ _ hO)).selT (Ls := [Row k24 24 (.slice A3 y1.f2.length c4) y1.f2, Row k36 36 (.slice (some ⟨b14, 0, none⟩) 1 1) ([(⟨5, (⟨#[]⟩ : ByteArray), 0, ([] : List S36)⟩ : S36)] : List S36), Blk b34 [.int .i64 y29.1.f0, .int .i64 y29.1.f1, .slice A31 y29.1.f2.length c32] 24, Row k24 24 (.slice A31 y29.1.f2.length c32) y29.1.f2, Blk b28 [.int .i64 y23.1.f0, .int .i64 y23.1.f1, .slice A25 y23.1.f2.length c26] 24]) [2, 3, 4, 5, 6] 7 rfl rfl rfl) ?_
      refine TA.take 36 rfl (by kernel_rfl) rfl (PQ.then_ PQ.body) rfl (Val.pickN rfl rfl rfl) (fun W hO => (hb349 _ _ (hb364 _ _ hO)).selT (Ls := [Row k24 24 (.slice A3 y1.f2.length c4) y1.f2, Row k36 36 (.slice (some ⟨b14, 0, none⟩) 1 1) ([(⟨5, (⟨#[]⟩ : ByteArray), 0, ([] : List S36)⟩ : S36)] : List S36), Blk b34 [.int .i64 y29.1.f0, .int .i64 y29.1.f1, .slice A31 y29.1.f2.length c32] 24, Row k24 24 (.slice A31 y29.1.f2.length c32) y29.1.f2, Blk b28 [.int .i64 y23.1.f0, .int .i64 y23.1.f1, .slice A25 y23.1.f2.length c26] 24]) [2, 3, 4, 5, 6] 7 rfl rfl rfl) ?_
      refine TA.take 37 rfl (by kernel_rfl) rfl (PQ.then_ PQ.body) rfl (Val.move rfl) (fun W hO => (hb349 _ _ (hb364 _ _ hO)).selT (Ls := [Row k24 24 (.slice A3 y1.f2.length c4) y1.f2, Row k36 36 (.slice (some ⟨b14, 0, none⟩) 1 1) ([(⟨5, (⟨#[]⟩ : ByteArray), 0, ([] : List S36)⟩ : S36)] : List S36), Blk b34 [.int .i64 y29.1.f0, .int .i64 y29.1.f1, .slice A31 y29.1.f2.length c32] 24, Row k24 24 (.slice A31 y29.1.f2.length c32) y29.1.f2, Blk b28 [.int .i64 y23.1.f0, .int .i64 y23.1.f1, .slice A25 y23.1.f2.length c26] 24]) [2, 3, 4, 5, 6] 7 rfl rfl rfl) ?_
      refine TA.not 38 rfl (by kernel_rfl) rfl (PQ.then_ PQ.body) (Wt.no rfl rfl rfl rfl) (fun W hO => (hb349 _ _ (hb364 _ _ hO)).selT (Ls := [Row k24 24 (.slice A3 y1.f2.length c4) y1.f2, Row k36 36 (.slice (some ⟨b14, 0, none⟩) 1 1) ([(⟨5, (⟨#[]⟩ : ByteArray), 0, ([] : List S36)⟩ : S36)] : List S36), Blk b34 [.int .i64 y29.1.f0, .int .i64 y29.1.f1, .slice A31 y29.1.f2.length c32] 24, Row k24 24 (.slice A31 y29.1.f2.length c32) y29.1.f2, Blk b28 [.int .i64 y23.1.f0, .int .i64 y23.1.f1, .slice A25 y23.1.f2.length c26] 24]) [2, 3, 4, 5, 6] 7 rfl rfl rfl) ?_
      refine TA.not 39 rfl (by kernel_rfl) rfl (PQ.then_ PQ.body) (Wt.no rfl rfl rfl rfl) (fun W hO => (hb349 _ _ (hb364 _ _ hO)).selT (Ls := [Row k24 24 (.slice A3 y1.f2.length c4) y1.f2, Row k36 36 (.slice (some ⟨b14, 0, none⟩) 1 1) ([(⟨5, (⟨#[]⟩ : ByteArray), 0, ([] : List S36)⟩ : S36)] : List S36), Blk b34 [.int .i64 y29.1.f0, .int .i64 y29.1.f1, .slice A31 y29.1.f2.length c32] 24, Row k24 24 (.slice A31 y29.1.f2.length c32) y29.1.f2, Blk b28 [.int .i64 y23.1.f0, .int .i64 y23.1.f1, .slice A25 y23.1.f2.length c26] 24]) [2, 3, 4, 5, 6] 7 rfl rfl rfl) ?_
      refine TA.not 40 rfl (by kernel_rfl) rfl (PQ.then_ PQ.body) (Wt.no rfl rfl rfl rfl) (fun W hO => (hb349 _ _ (hb364 _ _ hO)).selT (Ls := [Row k24 24 (.slice A3 y1.f2.length c4) y1.f2, Row k36 36 (.slice (some ⟨b14, 0, none⟩) 1 1) ([(⟨5, (⟨#[]⟩ : ByteArray), 0, ([] : List S36)⟩ : S36)] : List S36), Blk b34 [.int .i64 y29.1.f0, .int .i64 y29.1.f1, .slice A31 y29.1.f2.length c32] 24, Row k24 24 (.slice A31 y29.1.f2.length c32) y29.1.f2, Blk b28 [.int .i64 y23.1.f0, .int .i64 y23.1.f1, .slice A25 y23.1.f2.length c26] 24]) [2, 3, 4, 5, 6] 7 rfl rfl rfl) ?_
      refine TA.take 41 rfl (by kernel_rfl) rfl (PQ.then_ PQ.body) rfl (Val.pickN rfl rfl rfl) (fun W hO => (hb349 _ _ (hb364 _ _ hO)).selT (Ls := [Row k24 24 (.slice A3 y1.f2.length c4) y1.f2, Row k36 36 (.slice (some ⟨b14, 0, none⟩) 1 1) ([(⟨5, (⟨#[]⟩ : ByteArray), 0, ([] : List S36)⟩ : S36)] : List S36), Blk b34 [.int .i64 y29.1.f0, .int .i64 y29.1.f1, .slice A31 y29.1.f2.length c32] 24, Row k24 24 (.slice A31 y29.1.f2.length c32) y29.1.f2, Blk b28 [.int .i64 y23.1.f0, .int .i64 y23.1.f1, .slice A25 y23.1.f2.length c26] 24]) [2, 3, 4, 5, 6] 7 rfl rfl rfl) ?_
      refine TA.take 42 rfl (by kernel_rfl) rfl (PQ.then_ PQ.body) rfl (Val.assign rfl) (fun W hO => (hb349 _ _ (hb364 _ _ hO)).selT (Ls := [Row k24 24 (.slice A3 y1.f2.length c4) y1.f2, Row k36 36 (.slice (some ⟨b14, 0, none⟩) 1 1) ([(⟨5, (⟨#[]⟩ : ByteArray), 0, ([] : List S36)⟩ : S36)] : List S36), Blk b34 [.int .i64 y29.1.f0, .int .i64 y29.1.f1, .slice A31 y29.1.f2.length c32] 24, Row k24 24 (.slice A31 y29.1.f2.length c32) y29.1.f2, Blk b28 [.int .i64 y23.1.f0, .int .i64 y23.1.f1, .slice A25 y23.1.f2.length c26] 24]) [2, 3, 4, 5, 6] 7 rfl rfl rfl) ?_
      refine TA.done (by kernel_rfl) ?_
      refine TQ.then_ ?_
      refine TC.ret ?_
      refine TQ.back hb364 ?_
      refine TQ.back hb349 ?_
      refine TQ.back hb338 ?_
      obtain rfl := Option.some.inj h
      exact TQ.fin (.inl rfl) rfl Tryd.results7 (.tmp rfl .nil) rfl (FRel.mk (Ls := []) [] 8 (Gd.le.refl _) rfl rfl rfl ⟨rfl, rfl, rfl⟩)
  · have hk434 : y352 = false := (by simpa using hg354)
    refine TA.not 3 rfl (by kernel_rfl) rfl (PQ.then_ PQ.body) (Wt.no rfl rfl rfl hk434) (fun W hO => (hb349 _ _ hO).selT (Ls := [Row k24 24 (.slice A3 y1.f2.length c4) y1.f2, Row k36 36 (.slice (some ⟨b14, 0, none⟩) 1 1) ([(⟨5, (⟨#[]⟩ : ByteArray), 0, ([] : List S36)⟩ : S36)] : List S36), Blk b34 [.int .i64 y29.1.f0, .int .i64 y29.1.f1, .slice A31 y29.1.f2.length c32] 24, Row k24 24 (.slice A31 y29.1.f2.length c32) y29.1.f2, Blk b28 [.int .i64 y23.1.f0, .int .i64 y23.1.f1, .slice A25 y23.1.f2.length c26] 24]) [1, 2, 3, 4, 5] 6 rfl rfl rfl) ?_
    refine TA.not 4 rfl (by kernel_rfl) rfl (PQ.then_ PQ.body) (Wt.no rfl rfl rfl hk434) (fun W hO => (hb349 _ _ hO).selT (Ls := [Row k24 24 (.slice A3 y1.f2.length c4) y1.f2, Row k36 36 (.slice (some ⟨b14, 0, none⟩) 1 1) ([(⟨5, (⟨#[]⟩ : ByteArray), 0, ([] : List S36)⟩ : S36)] : List S36), Blk b34 [.int .i64 y29.1.f0, .int .i64 y29.1.f1, .slice A31 y29.1.f2.length c32] 24, Row k24 24 (.slice A31 y29.1.f2.length c32) y29.1.f2, Blk b28 [.int .i64 y23.1.f0, .int .i64 y23.1.f1, .slice A25 y23.1.f2.length c26] 24]) [1, 2, 3, 4, 5] 6 rfl rfl rfl) ?_
    refine TA.not 5 rfl (by kernel_rfl) rfl (PQ.then_ PQ.body) (Wt.no rfl rfl rfl hk434) (fun W hO => (hb349 _ _ hO).selT (Ls := [Row k24 24 (.slice A3 y1.f2.length c4) y1.f2, Row k36 36 (.slice (some ⟨b14, 0, none⟩) 1 1) ([(⟨5, (⟨#[]⟩ : ByteArray), 0, ([] : List S36)⟩ : S36)] : List S36), Blk b34 [.int .i64 y29.1.f0, .int .i64 y29.1.f1, .slice A31 y29.1.f2.length c32] 24, Row k24 24 (.slice A31 y29.1.f2.length c32) y29.1.f2, Blk b28 [.int .i64 y23.1.f0, .int .i64 y23.1.f1, .slice A25 y23.1.f2.length c26] 24]) [1, 2, 3, 4, 5] 6 rfl rfl rfl) ?_
    refine TA.take 6 rfl (by kernel_rfl) rfl (PQ.then_ PQ.body) rfl (Val.pickN rfl hk434 rfl) (fun W hO => (hb349 _ _ hO).selT (Ls := [Row k24 24 (.slice A3 y1.f2.length c4) y1.f2, Row k36 36 (.slice (some ⟨b14, 0, none⟩) 1 1) ([(⟨5, (⟨#[]⟩ : ByteArray), 0, ([] : List S36)⟩ : S36)] : List S36), Blk b34 [.int .i64 y29.1.f0, .int .i64 y29.1.f1, .slice A31 y29.1.f2.length c32] 24, Row k24 24 (.slice A31 y29.1.f2.length c32) y29.1.f2, Blk b28 [.int .i64 y23.1.f0, .int .i64 y23.1.f1, .slice A25 y23.1.f2.length c26] 24]) [1, 2, 3, 4, 5] 6 rfl rfl rfl) ?_
    refine TA.take 7 rfl (by kernel_rfl) rfl (PQ.then_ PQ.body) rfl (Val.move rfl) (fun W hO => (hb349 _ _ hO).selT (Ls := [Row k24 24 (.slice A3 y1.f2.length c4) y1.f2, Row k36 36 (.slice (some ⟨b14, 0, none⟩) 1 1) ([(⟨5, (⟨#[]⟩ : ByteArray), 0, ([] : List S36)⟩ : S36)] : List S36), Blk b34 [.int .i64 y29.1.f0, .int .i64 y29.1.f1, .slice A31 y29.1.f2.length c32] 24, Row k24 24 (.slice A31 y29.1.f2.length c32) y29.1.f2, Blk b28 [.int .i64 y23.1.f0, .int .i64 y23.1.f1, .slice A25 y23.1.f2.length c26] 24]) [1, 2, 3, 4, 5] 6 rfl rfl rfl) ?_
    refine TA.not 8 rfl (by kernel_rfl) rfl (PQ.then_ PQ.body) (Wt.no rfl rfl rfl rfl) (fun W hO => (hb349 _ _ hO).selT (Ls := [Row k24 24 (.slice A3 y1.f2.length c4) y1.f2, Row k36 36 (.slice (some ⟨b14, 0, none⟩) 1 1) ([(⟨5, (⟨#[]⟩ : ByteArray), 0, ([] : List S36)⟩ : S36)] : List S36), Blk b34 [.int .i64 y29.1.f0, .int .i64 y29.1.f1, .slice A31 y29.1.f2.length c32] 24, Row k24 24 (.slice A31 y29.1.f2.length c32) y29.1.f2, Blk b28 [.int .i64 y23.1.f0, .int .i64 y23.1.f1, .slice A25 y23.1.f2.length c26] 24]) [1, 2, 3, 4, 5] 6 rfl rfl rfl) ?_
    refine TA.not 9 rfl (by kernel_rfl) rfl (PQ.then_ PQ.body) (Wt.no rfl rfl rfl rfl) (fun W hO => (hb349 _ _ hO).selT (Ls := [Row k24 24 (.slice A3 y1.f2.length c4) y1.f2, Row k36 36 (.slice (some ⟨b14, 0, none⟩) 1 1) ([(⟨5, (⟨#[]⟩ : ByteArray), 0, ([] : List S36)⟩ : S36)] : List S36), Blk b34 [.int .i64 y29.1.f0, .int .i64 y29.1.f1, .slice A31 y29.1.f2.length c32] 24, Row k24 24 (.slice A31 y29.1.f2.length c32) y29.1.f2, Blk b28 [.int .i64 y23.1.f0, .int .i64 y23.1.f1, .slice A25 y23.1.f2.length c26] 24]) [1, 2, 3, 4, 5] 6 rfl rfl rfl) ?_
    refine TA.take 10 rfl (by kernel_rfl) rfl (PQ.then_ PQ.body) rfl (Val.pickN rfl rfl rfl) (fun W hO => (hb349 _ _ hO).selT (Ls := [Row k24 24 (.slice A3 y1.f2.length c4) y1.f2, Row k36 36 (.slice (some ⟨b14, 0, none⟩) 1 1) ([(⟨5, (⟨#[]⟩ : ByteArray), 0, ([] : List S36)⟩ : S36)] : List S36), Blk b34 [.int .i64 y29.1.f0, .int .i64 y29.1.f1, .slice A31 y29.1.f2.length c32] 24, Row k24 24 (.slice A31 y29.1.f2.length c32) y29.1.f2, Blk b28 [.int .i64 y23.1.f0, .int .i64 y23.1.f1, .slice A25 y23.1.f2.length c26] 24]) [1, 2, 3, 4, 5] 6 rfl rfl rfl) ?_
    refine TA.take 11 rfl (by kernel_rfl) rfl (PQ.then_ PQ.body) rfl (Val.move rfl) (fun W hO => (hb349 _ _ hO).selT (Ls := [Row k24 24 (.slice A3 y1.f2.length c4) y1.f2, Row k36 36 (.slice (some ⟨b14, 0, none⟩) 1 1) ([(⟨5, (⟨#[]⟩ : ByteArray), 0, ([] : List S36)⟩ : S36)] : List S36), Blk b34 [.int .i64 y29.1.f0, .int .i64 y29.1.f1, .slice A31 y29.1.f2.length c32] 24, Row k24 24 (.slice A31 y29.1.f2.length c32) y29.1.f2, Blk b28 [.int .i64 y23.1.f0, .int .i64 y23.1.f1, .slice A25 y23.1.f2.length c26] 24]) [1, 2, 3, 4, 5] 6 rfl rfl rfl) ?_
    refine TA.not 12 rfl (by kernel_rfl) rfl (PQ.then_ PQ.body) (Wt.no rfl rfl rfl rfl) (fun W hO => (hb349 _ _ hO).selT (Ls := [Row k24 24 (.slice A3 y1.f2.length c4) y1.f2, Row k36 36 (.slice (some ⟨b14, 0, none⟩) 1 1) ([(⟨5, (⟨#[]⟩ : ByteArray), 0, ([] : List S36)⟩ : S36)] : List S36), Blk b34 [.int .i64 y29.1.f0, .int .i64 y29.1.f1, .slice A31 y29.1.f2.length c32] 24, Row k24 24 (.slice A31 y29.1.f2.length c32) y29.1.f2, Blk b28 [.int .i64 y23.1.f0, .int .i64 y23.1.f1, .slice A25 y23.1.f2.length c26] 24]) [1, 2, 3, 4, 5] 6 rfl rfl rfl) ?_
    refine TA.take 13 rfl (by kernel_rfl) rfl (PQ.then_ PQ.body) rfl (Val.pickN rfl rfl rfl) (fun W hO => (hb349 _ _ hO).selT (Ls := [Row k24 24 (.slice A3 y1.f2.length c4) y1.f2, Row k36 36 (.slice (some ⟨b14, 0, none⟩) 1 1) ([(⟨5, (⟨#[]⟩ : ByteArray), 0, ([] : List S36)⟩ : S36)] : List S36), Blk b34 [.int .i64 y29.1.f0, .int .i64 y29.1.f1, .slice A31 y29.1.f2.length c32] 24, Row k24 24 (.slice A31 y29.1.f2.length c32) y29.1.f2, Blk b28 [.int .i64 y23.1.f0, .int .i64 y23.1.f1, .slice A25 y23.1.f2.length c26] 24]) [1, 2, 3, 4, 5] 6 rfl rfl rfl) ?_
    refine TA.take 14 rfl (by kernel_rfl) rfl (PQ.then_ PQ.body) rfl (Val.move rfl) (fun W hO => (hb349 _ _ hO).selT (Ls := [Row k24 24 (.slice A3 y1.f2.length c4) y1.f2, Row k36 36 (.slice (some ⟨b14, 0, none⟩) 1 1) ([(⟨5, (⟨#[]⟩ : ByteArray), 0, ([] : List S36)⟩ : S36)] : List S36), Blk b34 [.int .i64 y29.1.f0, .int .i64 y29.1.f1, .slice A31 y29.1.f2.length c32] 24, Row k24 24 (.slice A31 y29.1.f2.length c32) y29.1.f2, Blk b28 [.int .i64 y23.1.f0, .int .i64 y23.1.f1, .slice A25 y23.1.f2.length c26] 24]) [1, 2, 3, 4, 5] 6 rfl rfl rfl) ?_
    refine TA.not 15 rfl (by kernel_rfl) rfl (PQ.then_ PQ.body) (Wt.no rfl rfl rfl rfl) (fun W hO => (hb349 _ _ hO).selT (Ls := [Row k24 24 (.slice A3 y1.f2.length c4) y1.f2, Row k36 36 (.slice (some ⟨b14, 0, none⟩) 1 1) ([(⟨5, (⟨#[]⟩ : ByteArray), 0, ([] : List S36)⟩ : S36)] : List S36), Blk b34 [.int .i64 y29.1.f0, .int .i64 y29.1.f1, .slice A31 y29.1.f2.length c32] 24, Row k24 24 (.slice A31 y29.1.f2.length c32) y29.1.f2, Blk b28 [.int .i64 y23.1.f0, .int .i64 y23.1.f1, .slice A25 y23.1.f2.length c26] 24]) [1, 2, 3, 4, 5] 6 rfl rfl rfl) ?_
    refine TA.not 16 rfl (by kernel_rfl) rfl (PQ.then_ PQ.body) (Wt.no rfl rfl rfl rfl) (fun W hO => (hb349 _ _ hO).selT (Ls := [Row k24 24 (.slice A3 y1.f2.length c4) y1.f2, Row k36 36 (.slice (some ⟨b14, 0, none⟩) 1 1) ([(⟨5, (⟨#[]⟩ : ByteArray), 0, ([] : List S36)⟩ : S36)] : List S36), Blk b34 [.int .i64 y29.1.f0, .int .i64 y29.1.f1, .slice A31 y29.1.f2.length c32] 24, Row k24 24 (.slice A31 y29.1.f2.length c32) y29.1.f2, Blk b28 [.int .i64 y23.1.f0, .int .i64 y23.1.f1, .slice A25 y23.1.f2.length c26] 24]) [1, 2, 3, 4, 5] 6 rfl rfl rfl) ?_
    refine TA.not 17 rfl (by kernel_rfl) rfl (PQ.then_ PQ.body) (Wt.no rfl rfl rfl rfl) (fun W hO => (hb349 _ _ hO).selT (Ls := [Row k24 24 (.slice A3 y1.f2.length c4) y1.f2, Row k36 36 (.slice (some ⟨b14, 0, none⟩) 1 1) ([(⟨5, (⟨#[]⟩ : ByteArray), 0, ([] : List S36)⟩ : S36)] : List S36), Blk b34 [.int .i64 y29.1.f0, .int .i64 y29.1.f1, .slice A31 y29.1.f2.length c32] 24, Row k24 24 (.slice A31 y29.1.f2.length c32) y29.1.f2, Blk b28 [.int .i64 y23.1.f0, .int .i64 y23.1.f1, .slice A25 y23.1.f2.length c26] 24]) [1, 2, 3, 4, 5] 6 rfl rfl rfl) ?_
    refine TA.take 18 rfl (by kernel_rfl) rfl (PQ.then_ PQ.body) rfl (Val.pickN rfl rfl rfl) (fun W hO => (hb349 _ _ hO).selT (Ls := [Row k24 24 (.slice A3 y1.f2.length c4) y1.f2, Row k36 36 (.slice (some ⟨b14, 0, none⟩) 1 1) ([(⟨5, (⟨#[]⟩ : ByteArray), 0, ([] : List S36)⟩ : S36)] : List S36), Blk b34 [.int .i64 y29.1.f0, .int .i64 y29.1.f1, .slice A31 y29.1.f2.length c32] 24, Row k24 24 (.slice A31 y29.1.f2.length c32) y29.1.f2, Blk b28 [.int .i64 y23.1.f0, .int .i64 y23.1.f1, .slice A25 y23.1.f2.length c26] 24]) [1, 2, 3, 4, 5] 6 rfl rfl rfl) ?_
    refine TA.take 19 rfl (by kernel_rfl) rfl (PQ.then_ PQ.body) rfl (Val.move rfl) (fun W hO => (hb349 _ _ hO).selT (Ls := [Row k24 24 (.slice A3 y1.f2.length c4) y1.f2, Row k36 36 (.slice (some ⟨b14, 0, none⟩) 1 1) ([(⟨5, (⟨#[]⟩ : ByteArray), 0, ([] : List S36)⟩ : S36)] : List S36), Blk b34 [.int .i64 y29.1.f0, .int .i64 y29.1.f1, .slice A31 y29.1.f2.length c32] 24, Row k24 24 (.slice A31 y29.1.f2.length c32) y29.1.f2, Blk b28 [.int .i64 y23.1.f0, .int .i64 y23.1.f1, .slice A25 y23.1.f2.length c26] 24]) [1, 2, 3, 4, 5] 6 rfl rfl rfl) ?_
    refine TA.not 20 rfl (by kernel_rfl) rfl (PQ.then_ PQ.body) (Wt.no rfl rfl rfl rfl) (fun W hO => (hb349 _ _ hO).selT (Ls := [Row k24 24 (.slice A3 y1.f2.length c4) y1.f2, Row k36 36 (.slice (some ⟨b14, 0, none⟩) 1 1) ([(⟨5, (⟨#[]⟩ : ByteArray), 0, ([] : List S36)⟩ : S36)] : List S36), Blk b34 [.int .i64 y29.1.f0, .int .i64 y29.1.f1, .slice A31 y29.1.f2.length c32] 24, Row k24 24 (.slice A31 y29.1.f2.length c32) y29.1.f2, Blk b28 [.int .i64 y23.1.f0, .int .i64 y23.1.f1, .slice A25 y23.1.f2.length c26] 24]) [1, 2, 3, 4, 5] 6 rfl rfl rfl) ?_
    refine TA.not 21 rfl (by kernel_rfl) rfl (PQ.then_ PQ.body) (Wt.no rfl rfl rfl rfl) (fun W hO => (hb349 _ _ hO).selT (Ls := [Row k24 24 (.slice A3 y1.f2.length c4) y1.f2, Row k36 36 (.slice (some ⟨b14, 0, none⟩) 1 1) ([(⟨5, (⟨#[]⟩ : ByteArray), 0, ([] : List S36)⟩ : S36)] : List S36), Blk b34 [.int .i64 y29.1.f0, .int .i64 y29.1.f1, .slice A31 y29.1.f2.length c32] 24, Row k24 24 (.slice A31 y29.1.f2.length c32) y29.1.f2, Blk b28 [.int .i64 y23.1.f0, .int .i64 y23.1.f1, .slice A25 y23.1.f2.length c26] 24]) [1, 2, 3, 4, 5] 6 rfl rfl rfl) ?_
    refine TA.take 22 rfl (by kernel_rfl) rfl (PQ.then_ PQ.body) rfl (Val.pickN rfl rfl rfl) (fun W hO => (hb349 _ _ hO).selT (Ls := [Row k24 24 (.slice A3 y1.f2.length c4) y1.f2, Row k36 36 (.slice (some ⟨b14, 0, none⟩) 1 1) ([(⟨5, (⟨#[]⟩ : ByteArray), 0, ([] : List S36)⟩ : S36)] : List S36), Blk b34 [.int .i64 y29.1.f0, .int .i64 y29.1.f1, .slice A31 y29.1.f2.length c32] 24, Row k24 24 (.slice A31 y29.1.f2.length c32) y29.1.f2, Blk b28 [.int .i64 y23.1.f0, .int .i64 y23.1.f1, .slice A25 y23.1.f2.length c26] 24]) [1, 2, 3, 4, 5] 6 rfl rfl rfl) ?_
    refine TA.take 23 rfl (by kernel_rfl) rfl (PQ.then_ PQ.body) rfl (Val.move rfl) (fun W hO => (hb349 _ _ hO).selT (Ls := [Row k24 24 (.slice A3 y1.f2.length c4) y1.f2, Row k36 36 (.slice (some ⟨b14, 0, none⟩) 1 1) ([(⟨5, (⟨#[]⟩ : ByteArray), 0, ([] : List S36)⟩ : S36)] : List S36), Blk b34 [.int .i64 y29.1.f0, .int .i64 y29.1.f1, .slice A31 y29.1.f2.length c32] 24, Row k24 24 (.slice A31 y29.1.f2.length c32) y29.1.f2, Blk b28 [.int .i64 y23.1.f0, .int .i64 y23.1.f1, .slice A25 y23.1.f2.length c26] 24]) [1, 2, 3, 4, 5] 6 rfl rfl rfl) ?_
    refine TA.not 24 rfl (by kernel_rfl) rfl (PQ.then_ PQ.body) (Wt.no rfl rfl rfl rfl) (fun W hO => (hb349 _ _ hO).selT (Ls := [Row k24 24 (.slice A3 y1.f2.length c4) y1.f2, Row k36 36 (.slice (some ⟨b14, 0, none⟩) 1 1) ([(⟨5, (⟨#[]⟩ : ByteArray), 0, ([] : List S36)⟩ : S36)] : List S36), Blk b34 [.int .i64 y29.1.f0, .int .i64 y29.1.f1, .slice A31 y29.1.f2.length c32] 24, Row k24 24 (.slice A31 y29.1.f2.length c32) y29.1.f2, Blk b28 [.int .i64 y23.1.f0, .int .i64 y23.1.f1, .slice A25 y23.1.f2.length c26] 24]) [1, 2, 3, 4, 5] 6 rfl rfl rfl) ?_
    refine TA.not 25 rfl (by kernel_rfl) rfl (PQ.then_ PQ.body) (Wt.no rfl rfl rfl rfl) (fun W hO => (hb349 _ _ hO).selT (Ls := [Row k24 24 (.slice A3 y1.f2.length c4) y1.f2, Row k36 36 (.slice (some ⟨b14, 0, none⟩) 1 1) ([(⟨5, (⟨#[]⟩ : ByteArray), 0, ([] : List S36)⟩ : S36)] : List S36), Blk b34 [.int .i64 y29.1.f0, .int .i64 y29.1.f1, .slice A31 y29.1.f2.length c32] 24, Row k24 24 (.slice A31 y29.1.f2.length c32) y29.1.f2, Blk b28 [.int .i64 y23.1.f0, .int .i64 y23.1.f1, .slice A25 y23.1.f2.length c26] 24]) [1, 2, 3, 4, 5] 6 rfl rfl rfl) ?_
    refine TA.not 26 rfl (by kernel_rfl) rfl (PQ.then_ PQ.body) (Wt.no rfl rfl rfl rfl) (fun W hO => (hb349 _ _ hO).selT (Ls := [Row k24 24 (.slice A3 y1.f2.length c4) y1.f2, Row k36 36 (.slice (some ⟨b14, 0, none⟩) 1 1) ([(⟨5, (⟨#[]⟩ : ByteArray), 0, ([] : List S36)⟩ : S36)] : List S36), Blk b34 [.int .i64 y29.1.f0, .int .i64 y29.1.f1, .slice A31 y29.1.f2.length c32] 24, Row k24 24 (.slice A31 y29.1.f2.length c32) y29.1.f2, Blk b28 [.int .i64 y23.1.f0, .int .i64 y23.1.f1, .slice A25 y23.1.f2.length c26] 24]) [1, 2, 3, 4, 5] 6 rfl rfl rfl) ?_
    refine TA.not 27 rfl (by kernel_rfl) rfl (PQ.then_ PQ.body) (Wt.no rfl rfl rfl rfl) (fun W hO => (hb349 _ _ hO).selT (Ls := [Row k24 24 (.slice A3 y1.f2.length c4) y1.f2, Row k36 36 (.slice (some ⟨b14, 0, none⟩) 1 1) ([(⟨5, (⟨#[]⟩ : ByteArray), 0, ([] : List S36)⟩ : S36)] : List S36), Blk b34 [.int .i64 y29.1.f0, .int .i64 y29.1.f1, .slice A31 y29.1.f2.length c32] 24, Row k24 24 (.slice A31 y29.1.f2.length c32) y29.1.f2, Blk b28 [.int .i64 y23.1.f0, .int .i64 y23.1.f1, .slice A25 y23.1.f2.length c26] 24]) [1, 2, 3, 4, 5] 6 rfl rfl rfl) ?_
    refine TA.take 28 rfl (by kernel_rfl) rfl (PQ.then_ PQ.body) rfl (Val.pickN rfl rfl rfl) (fun W hO => (hb349 _ _ hO).selT (Ls := [Row k24 24 (.slice A3 y1.f2.length c4) y1.f2, Row k36 36 (.slice (some ⟨b14, 0, none⟩) 1 1) ([(⟨5, (⟨#[]⟩ : ByteArray), 0, ([] : List S36)⟩ : S36)] : List S36), Blk b34 [.int .i64 y29.1.f0, .int .i64 y29.1.f1, .slice A31 y29.1.f2.length c32] 24, Row k24 24 (.slice A31 y29.1.f2.length c32) y29.1.f2, Blk b28 [.int .i64 y23.1.f0, .int .i64 y23.1.f1, .slice A25 y23.1.f2.length c26] 24]) [1, 2, 3, 4, 5] 6 rfl rfl rfl) ?_
    refine TA.take 29 rfl (by kernel_rfl) rfl (PQ.then_ PQ.body) rfl (Val.move rfl) (fun W hO => (hb349 _ _ hO).selT (Ls := [Row k24 24 (.slice A3 y1.f2.length c4) y1.f2, Row k36 36 (.slice (some ⟨b14, 0, none⟩) 1 1) ([(⟨5, (⟨#[]⟩ : ByteArray), 0, ([] : List S36)⟩ : S36)] : List S36), Blk b34 [.int .i64 y29.1.f0, .int .i64 y29.1.f1, .slice A31 y29.1.f2.length c32] 24, Row k24 24 (.slice A31 y29.1.f2.length c32) y29.1.f2, Blk b28 [.int .i64 y23.1.f0, .int .i64 y23.1.f1, .slice A25 y23.1.f2.length c26] 24]) [1, 2, 3, 4, 5] 6 rfl rfl rfl) ?_
    refine TA.not 30 rfl (by kernel_rfl) rfl (PQ.then_ PQ.body) (Wt.no rfl rfl rfl rfl) (fun W hO => (hb349 _ _ hO).selT (Ls := [Row k24 24 (.slice A3 y1.f2.length c4) y1.f2, Row k36 36 (.slice (some ⟨b14, 0, none⟩) 1 1) ([(⟨5, (⟨#[]⟩ : ByteArray), 0, ([] : List S36)⟩ : S36)] : List S36), Blk b34 [.int .i64 y29.1.f0, .int .i64 y29.1.f1, .slice A31 y29.1.f2.length c32] 24, Row k24 24 (.slice A31 y29.1.f2.length c32) y29.1.f2, Blk b28 [.int .i64 y23.1.f0, .int .i64 y23.1.f1, .slice A25 y23.1.f2.length c26] 24]) [1, 2, 3, 4, 5] 6 rfl rfl rfl) ?_
    refine TA.not 31 rfl (by kernel_rfl) rfl (PQ.then_ PQ.body) (Wt.no rfl rfl rfl rfl) (fun W hO => (hb349 _ _ hO).selT (Ls := [Row k24 24 (.slice A3 y1.f2.length c4) y1.f2, Row k36 36 (.slice (some ⟨b14, 0, none⟩) 1 1) ([(⟨5, (⟨#[]⟩ : ByteArray), 0, ([] : List S36)⟩ : S36)] : List S36), Blk b34 [.int .i64 y29.1.f0, .int .i64 y29.1.f1, .slice A31 y29.1.f2.length c32] 24, Row k24 24 (.slice A31 y29.1.f2.length c32) y29.1.f2, Blk b28 [.int .i64 y23.1.f0, .int .i64 y23.1.f1, .slice A25 y23.1.f2.length c26] 24]) [1, 2, 3, 4, 5] 6 rfl rfl rfl) ?_
    refine TA.take 32 rfl (by kernel_rfl) rfl (PQ.then_ PQ.body) rfl (Val.pickN rfl rfl rfl) (fun W hO => (hb349 _ _ hO).selT (Ls := [Row k24 24 (.slice A3 y1.f2.length c4) y1.f2, Row k36 36 (.slice (some ⟨b14, 0, none⟩) 1 1) ([(⟨5, (⟨#[]⟩ : ByteArray), 0, ([] : List S36)⟩ : S36)] : List S36), Blk b34 [.int .i64 y29.1.f0, .int .i64 y29.1.f1, .slice A31 y29.1.f2.length c32] 24, Row k24 24 (.slice A31 y29.1.f2.length c32) y29.1.f2, Blk b28 [.int .i64 y23.1.f0, .int .i64 y23.1.f1, .slice A25 y23.1.f2.length c26] 24]) [1, 2, 3, 4, 5] 6 rfl rfl rfl) ?_
    refine TA.take 33 rfl (by kernel_rfl) rfl (PQ.then_ PQ.body) rfl (Val.move rfl) (fun W hO => (hb349 _ _ hO).selT (Ls := [Row k24 24 (.slice A3 y1.f2.length c4) y1.f2, Row k36 36 (.slice (some ⟨b14, 0, none⟩) 1 1) ([(⟨5, (⟨#[]⟩ : ByteArray), 0, ([] : List S36)⟩ : S36)] : List S36), Blk b34 [.int .i64 y29.1.f0, .int .i64 y29.1.f1, .slice A31 y29.1.f2.length c32] 24, Row k24 24 (.slice A31 y29.1.f2.length c32) y29.1.f2, Blk b28 [.int .i64 y23.1.f0, .int .i64 y23.1.f1, .slice A25 y23.1.f2.length c26] 24]) [1, 2, 3, 4, 5] 6 rfl rfl rfl) ?_
    refine TA.not 34 rfl (by kernel_rfl) rfl (PQ.then_ PQ.body) (Wt.no rfl rfl rfl rfl) (fun W hO => (hb349 _ _ hO).selT (Ls := [Row k24 24 (.slice A3 y1.f2.length c4) y1.f2, Row k36 36 (.slice (some ⟨b14, 0, none⟩) 1 1) ([(⟨5, (⟨#[]⟩ : ByteArray), 0, ([] : List S36)⟩ : S36)] : List S36), Blk b34 [.int .i64 y29.1.f0, .int .i64 y29.1.f1, .slice A31 y29.1.f2.length c32] 24, Row k24 24 (.slice A31 y29.1.f2.length c32) y29.1.f2, Blk b28 [.int .i64 y23.1.f0, .int .i64 y23.1.f1, .slice A25 y23.1.f2.length c26] 24]) [1, 2, 3, 4, 5] 6 rfl rfl rfl) ?_
    refine TA.not 35 rfl (by kernel_rfl) rfl (PQ.then_ PQ.body) (Wt.no rfl rfl rfl rfl) (fun W hO => (hb349 _ _ hO).selT (Ls := [Row k24 24 (.slice A3 y1.f2.length c4) y1.f2, Row k36 36 (.slice (some ⟨b14, 0, none⟩) 1 1) ([(⟨5, (⟨#[]⟩ : ByteArray), 0, ([] : List S36)⟩ : S36)] : List S36), Blk b34 [.int .i64 y29.1.f0, .int .i64 y29.1.f1, .slice A31 y29.1.f2.length c32] 24, Row k24 24 (.slice A31 y29.1.f2.length c32) y29.1.f2, Blk b28 [.int .i64 y23.1.f0, .int .i64 y23.1.f1, .slice A25 y23.1.f2.length c26] 24]) [1, 2, 3, 4, 5] 6 rfl rfl rfl) ?_
    refine TA.take 36 rfl (by kernel_rfl) rfl (PQ.then_ PQ.body) rfl (Val.pickN rfl rfl rfl) (fun W hO => (hb349 _ _ hO).selT (Ls := [Row k24 24 (.slice A3 y1.f2.length c4) y1.f2, Row k36 36 (.slice (some ⟨b14, 0, none⟩) 1 1) ([(⟨5, (⟨#[]⟩ : ByteArray), 0, ([] : List S36)⟩ : S36)] : List S36), Blk b34 [.int .i64 y29.1.f0, .int .i64 y29.1.f1, .slice A31 y29.1.f2.length c32] 24, Row k24 24 (.slice A31 y29.1.f2.length c32) y29.1.f2, Blk b28 [.int .i64 y23.1.f0, .int .i64 y23.1.f1, .slice A25 y23.1.f2.length c26] 24]) [1, 2, 3, 4, 5] 6 rfl rfl rfl) ?_
    refine TA.take 37 rfl (by kernel_rfl) rfl (PQ.then_ PQ.body) rfl (Val.move rfl) (fun W hO => (hb349 _ _ hO).selT (Ls := [Row k24 24 (.slice A3 y1.f2.length c4) y1.f2, Row k36 36 (.slice (some ⟨b14, 0, none⟩) 1 1) ([(⟨5, (⟨#[]⟩ : ByteArray), 0, ([] : List S36)⟩ : S36)] : List S36), Blk b34 [.int .i64 y29.1.f0, .int .i64 y29.1.f1, .slice A31 y29.1.f2.length c32] 24, Row k24 24 (.slice A31 y29.1.f2.length c32) y29.1.f2, Blk b28 [.int .i64 y23.1.f0, .int .i64 y23.1.f1, .slice A25 y23.1.f2.length c26] 24]) [1, 2, 3, 4, 5] 6 rfl rfl rfl) ?_
    refine TA.not 38 rfl (by kernel_rfl) rfl (PQ.then_ PQ.body) (Wt.no rfl rfl rfl rfl) (fun W hO => (hb349 _ _ hO).selT (Ls := [Row k24 24 (.slice A3 y1.f2.length c4) y1.f2, Row k36 36 (.slice (some ⟨b14, 0, none⟩) 1 1) ([(⟨5, (⟨#[]⟩ : ByteArray), 0, ([] : List S36)⟩ : S36)] : List S36), Blk b34 [.int .i64 y29.1.f0, .int .i64 y29.1.f1, .slice A31 y29.1.f2.length c32] 24, Row k24 24 (.slice A31 y29.1.f2.length c32) y29.1.f2, Blk b28 [.int .i64 y23.1.f0, .int .i64 y23.1.f1, .slice A25 y23.1.f2.length c26] 24]) [1, 2, 3, 4, 5] 6 rfl rfl rfl) ?_
    refine TA.not 39 rfl (by kernel_rfl) rfl (PQ.then_ PQ.body) (Wt.no rfl rfl rfl rfl) (fun W hO => (hb349 _ _ hO).selT (Ls := [Row k24 24 (.slice A3 y1.f2.length c4) y1.f2, Row k36 36 (.slice (some ⟨b14, 0, none⟩) 1 1) ([(⟨5, (⟨#[]⟩ : ByteArray), 0, ([] : List S36)⟩ : S36)] : List S36), Blk b34 [.int .i64 y29.1.f0, .int .i64 y29.1.f1, .slice A31 y29.1.f2.length c32] 24, Row k24 24 (.slice A31 y29.1.f2.length c32) y29.1.f2, Blk b28 [.int .i64 y23.1.f0, .int .i64 y23.1.f1, .slice A25 y23.1.f2.length c26] 24]) [1, 2, 3, 4, 5] 6 rfl rfl rfl) ?_
    refine TA.not 40 rfl (by kernel_rfl) rfl (PQ.then_ PQ.body) (Wt.no rfl rfl rfl rfl) (fun W hO => (hb349 _ _ hO).selT (Ls := [Row k24 24 (.slice A3 y1.f2.length c4) y1.f2, Row k36 36 (.slice (some ⟨b14, 0, none⟩) 1 1) ([(⟨5, (⟨#[]⟩ : ByteArray), 0, ([] : List S36)⟩ : S36)] : List S36), Blk b34 [.int .i64 y29.1.f0, .int .i64 y29.1.f1, .slice A31 y29.1.f2.length c32] 24, Row k24 24 (.slice A31 y29.1.f2.length c32) y29.1.f2, Blk b28 [.int .i64 y23.1.f0, .int .i64 y23.1.f1, .slice A25 y23.1.f2.length c26] 24]) [1, 2, 3, 4, 5] 6 rfl rfl rfl) ?_
    refine TA.take 41 rfl (by kernel_rfl) rfl (PQ.then_ PQ.body) rfl (Val.pickN rfl rfl rfl) (fun W hO => (hb349 _ _ hO).selT (Ls := [Row k24 24 (.slice A3 y1.f2.length c4) y1.f2, Row k36 36 (.slice (some ⟨b14, 0, none⟩) 1 1) ([(⟨5, (⟨#[]⟩ : ByteArray), 0, ([] : List S36)⟩ : S36)] : List S36), Blk b34 [.int .i64 y29.1.f0, .int .i64 y29.1.f1, .slice A31 y29.1.f2.length c32] 24, Row k24 24 (.slice A31 y29.1.f2.length c32) y29.1.f2, Blk b28 [.int .i64 y23.1.f0, .int .i64 y23.1.f1, .slice A25 y23.1.f2.length c26] 24]) [1, 2, 3, 4, 5] 6 rfl rfl rfl) ?_
    refine TA.take 42 rfl (by kernel_rfl) rfl (PQ.then_ PQ.body) rfl (Val.assign rfl) (fun W hO => (hb349 _ _ hO).selT (Ls := [Row k24 24 (.slice A3 y1.f2.length c4) y1.f2, Row k36 36 (.slice (some ⟨b14, 0, none⟩) 1 1) ([(⟨5, (⟨#[]⟩ : ByteArray), 0, ([] : List S36)⟩ : S36)] : List S36), Blk b34 [.int .i64 y29.1.f0, .int .i64 y29.1.f1, .slice A31 y29.1.f2.length c32] 24, Row k24 24 (.slice A31 y29.1.f2.length c32) y29.1.f2, Blk b28 [.int .i64 y23.1.f0, .int .i64 y23.1.f1, .slice A25 y23.1.f2.length c26] 24]) [1, 2, 3, 4, 5] 6 rfl rfl rfl) ?_
    refine TA.done (by kernel_rfl) ?_
    refine TQ.then_ ?_
    refine TC.ret ?_
    refine TQ.back hb349 ?_
    refine TQ.back hb338 ?_
    obtain rfl := Option.some.inj h
    exact TQ.fin (.inl rfl) rfl Tryd.results7 (.tmp rfl .nil) rfl (FRel.mk (Ls := []) [] 7 (Gd.le.refl _) rfl rfl rfl ⟨rfl, rfl, rfl⟩)
end Go.Proofs.YtdklnjmdaecboaaDoor.Sy
set_option linter.unusedVariables false
set_option linter.unusedSimpArgs false
set_option maxRecDepth 100000
set_option maxHeartbeats 4000000
namespace Go.Proofs.YtdklnjmdaecboaaDoor.Sy
open Go Go.RowKit Go.Proofs.YtdklnjmdaecboaaDoorW.PrintWords 
def swagelaw11_TypesTell.l0 : Nat → Int → (List S24) → Option (Unit)
  | 0, _, _ => none
  | n193 + 1, x172, l173 => (if x172 < (l173.length : Int) then (at? l173 x172).bind fun y455 => swagelaw11_TypesTell.l0 n193 (IntKind.i64.wrap (x172 + 1)) (l173.set x172.toNat (⟨(-7), y455.f1, y455.f2⟩ : S24)) else some ())
def swagelaw11_TypesTell.f (a0 : S24) (a1 : S24) (a2 : Int) : Option Bool := (swagelaw11_small.f).bind fun (y11 : Bool) => jn (γ := Bool) (fun (x20 : Bool) => (if (!x20) = true then some y11 else (swageref11_Copy.f a0).bind fun (y24 : S24) => (types_Copy.f a0).bind fun (y30 : S24) => (types_Pointer.f a0).bind fun (y36 : S24) => jn (γ := Bool) (fun (x118 : Bool) => (swagelaw11_TypesTell.l0 (y30.f2.length + 1) 0 y30.f2).bind fun _ => jn (γ := Bool) ((types_Offset.f a0 a2).bind fun (y216 : (Int × Bool)) => (swageref11_Offset.f a0 a2).bind fun (y218 : (Int × Bool)) => (if y11 = true then (if x118 = true then (types_Right.f a0).bind fun (y395 : Bool) => (swageref11_Right.f a0).bind fun (y397 : Bool) => (if (y395 == y397) = true then (types_Size.f a0).bind fun (y401 : Int) => (swageref11_Size.f a0).bind fun (y403 : Int) => (if y401 = y403 then (if y216.1 = y218.1 then (if (y216.2 == y218.2) = true then (types_Same.f a0 a1).bind fun (y411 : Bool) => (swageref11_Same.f a0 a1).bind fun (y413 : Bool) => (if (y411 == y413) = true then (types_Scalar.f a0).bind fun (y417 : Bool) => (swageref11_Scalar.f a0).bind fun (y419 : Bool) => (if (y417 == y419) = true then (types_Text.f a0).bind fun (y423 : ByteArray) => (swageref11_Text.f a0).bind fun (y425 : ByteArray) => (if (y423.data.toList == y425.data.toList) = true then (swageref11_Same.f a0 y24).bind fun (y429 : Bool) => some y429 else some false) else some false) else some false) else some false) else some false) else some false) else some false) else some false) else some false)) (fun (j215 : (Option Bool)) => (if x118 = true then (at? y36.f2 0).bind fun y441 => j215 else j215))) (fun (j119 : (Bool → Option Bool)) => (swageref11_Same.f y30 a0).bind fun (y511 : Bool) => (if y511 = true then (if y36.f0 = 2 then (if (y36.f2.length : Int) = 1 then (at? y36.f2 0).bind fun y519 => (swageref11_Same.f y519 a0).bind fun (y532 : Bool) => j119 y532 else j119 false) else j119 false) else j119 false)))) (fun (j21 : (Bool → Option Bool)) => (swagelaw11_Few.f a0).bind fun (y537 : Bool) => (if y537 = true then (swagelaw11_Few.f a1).bind fun (y541 : Bool) => j21 y541 else j21 false))
def swagelaw11_TypesTell.post (G : Gd) (r : Bool) (v : Value) (G' : Gd) (Lr : List Ch) : Prop := G = G' ∧ v = .bool r ∧ Lr = []
theorem swagelaw11_TypesTell.calls {G : Gd} {r : Bool} {a0 : S24} {a1 : S24} {a2 : Int} {A1 : Option Addr} {c2 : Nat} {A5 : Option Addr} {c6 : Nat} (ht : Tab G) (hr3 : Rd G k24 A1 a0.f2) (hl4 : a0.f2.length ≤ c2) (hr7 : Rd G k24 A5 a1.f2) (hl8 : a1.f2.length ≤ c6) (h : swagelaw11_TypesTell.f a0 a1 a2 = some r) : Fn Tryd.prog 3 G [] [.agg #[.int .i64 a0.f0, .int .i64 a0.f1, .slice A1 a0.f2.length c2], .agg #[.int .i64 a1.f0, .int .i64 a1.f1, .slice A5 a1.f2.length c6], .int .i64 a2] (swagelaw11_TypesTell.post G r) := by
  refine Fn.intro (e := [(0, .agg #[.int .i64 a0.f0, .int .i64 a0.f1, .slice A1 a0.f2.length c2]), (1, .agg #[.int .i64 a1.f0, .int .i64 a1.f1, .slice A5 a1.f2.length c6]), (2, .int .i64 a2)]) 141 Tryd.func3 rfl Tryd.ntmps3 rfl rfl (Nat.le_of_ble_eq_true rfl) (fun L => ?_)
  unfold swagelaw11_TypesTell.f at h
  refine TC.seq ?_
  refine TC.region ?_
  refine TL.cons (TL.box (cs := [.int .i64 a0.f0, .int .i64 a0.f1, .slice A1 a0.f2.length c2]) rfl rfl rfl rfl (fun b9 => ?_))
  refine TL.cons (TL.box (cs := [.int .i64 a1.f0, .int .i64 a1.f1, .slice A5 a1.f2.length c6]) rfl rfl rfl rfl (fun b10 => ?_))
  refine TL.cons (TO.val rfl rfl rfl (Val.assign rfl) ?_)
  refine TL.nil ?_
  refine TQ.then_ ?_
  refine TC.seq ?_
  refine TC.region ?_
  obtain ⟨y11, hy12, h⟩ := bind_no h
  refine TL.cons (TL.callV (Lin := []) (args := []) rfl rfl rfl hbd7 rfl rfl (swagelaw11_small.calls ht hy12) rfl ?_)
  rintro _ _ _ _ ⟨rfl, rfl, rfl⟩
  refine TL.cons (TO.val rfl rfl rfl (Val.assign rfl) ?_)
  refine TL.nil ?_
  refine TQ.then_ ?_
  refine TC.seq ?_
  obtain ⟨j21, hj21, h⟩ := jn_no h
  refine TC.tail (fun a W => ∃ (x20 : Bool), j21 x20 = some r ∧ Fr 141 a [(2, .int .i64 a2), (3, .pointer (some ⟨b9, 0, none⟩)), (4, .pointer (some ⟨b10, 0, none⟩)), (7, .bool y11), (8, .bool x20)] ∧ Own G (Blk b10 [.int .i64 a1.f0, .int .i64 a1.f1, .slice A5 a1.f2.length c6] 24 :: Blk b9 [.int .i64 a0.f0, .int .i64 a0.f1, .slice A1 a0.f2.length c2] 24 :: L) W) ?_ ?_
  · rintro a W ⟨x20, h, hF, hO⟩
    rw [hj21] at h
    refine TQ.use ?_ hF hO
    clear hF hO
    refine TQ.then_ ?_
    refine TC.seq ?_
    refine TC.seq ?_
    refine TC.region ?_
    refine TL.cons (TO.val rfl rfl rfl (Val.move rfl) ?_)
    refine TL.cons (TO.val rfl rfl rfl (Val.not_ rfl) ?_)
    refine TL.nil ?_
    refine TQ.then_ ?_
    refine TC.cond_b rfl h (fun hc23 h => ?_) (fun hc23 h => ?_)
    · refine TC.seq ?_
      refine TC.region ?_
      refine TL.cons (TO.val rfl rfl rfl (Val.move rfl) ?_)
      refine TL.cons (TO.val rfl rfl rfl (Val.assign rfl) ?_)
      refine TL.nil ?_
      refine TQ.then_ ?_
      refine TC.ret ?_
      refine TQ.thenR ?_
      obtain rfl := Option.some.inj h
      exact TQ.fin (.inl rfl) rfl Tryd.results3 (.tmp rfl .nil) rfl (FRel.mk (Ls := []) [] 2 (Gd.le.refl _) rfl rfl rfl ⟨rfl, rfl, rfl⟩)
    · refine TC.skip ?_
      refine TQ.then_ ?_
      refine TC.seq ?_
      refine TC.region ?_
      refine TL.cons (TO.val rfl rfl rfl (Val.loadsB 1 (cs := [.int .i64 a0.f0, .int .i64 a0.f1, .slice A1 a0.f2.length c2]) agg24 fsz24 rfl rfl rfl rfl) ?_)
      obtain ⟨y24, hy25, h⟩ := bind_no h
      refine TL.cons (TL.callV (Lin := []) (args := [.agg #[.int .i64 a0.f0, .int .i64 a0.f1, .slice A1 a0.f2.length c2]]) rfl rfl rfl hbd9 rfl rfl (swageref11_Copy.calls (a0 := a0) hr3 hl4 hy25) rfl ?_)
      rintro _ _ _ _ ⟨rfl, A26, c27, rfl, rfl⟩
      refine TL.cons (TL.alloc (cs := [.int .i64 0, .int .i64 0, .slice none 0 0]) rfl rfl zr24 rfl (fun b29 => ?_))
      refine TL.cons (TL.store 0 (ds := [.int .i64 y24.f0, .int .i64 y24.f1, .slice A26 y24.f2.length c27]) (cs' := [.int .i64 y24.f0, .int .i64 y24.f1, .slice A26 y24.f2.length c27]) (L' := (Blk b29 [.int .i64 y24.f0, .int .i64 y24.f1, .slice A26 y24.f2.length c27] 24 :: Row k24 24 (.slice A26 y24.f2.length c27) y24.f2 :: Blk b10 [.int .i64 a1.f0, .int .i64 a1.f1, .slice A5 a1.f2.length c6] 24 :: Blk b9 [.int .i64 a0.f0, .int .i64 a0.f1, .slice A1 a0.f2.length c2] 24 :: L)) rfl fsz24 rfl rfl rfl rfl rfl (Nat.le_of_ble_eq_true rfl) rfl rfl ?_)
      refine TL.nil ?_
      refine TQ.then_ ?_
      refine TC.seq ?_
      refine TC.region ?_
      refine TL.cons (TO.val rfl rfl rfl (Val.loadsB 3 (cs := [.int .i64 a0.f0, .int .i64 a0.f1, .slice A1 a0.f2.length c2]) agg24 fsz24 rfl rfl rfl rfl) ?_)
      obtain ⟨y30, hy31, h⟩ := bind_no h
      refine TL.cons (TL.callV (Lin := []) (args := [.agg #[.int .i64 a0.f0, .int .i64 a0.f1, .slice A1 a0.f2.length c2]]) rfl rfl rfl hbd10 rfl rfl (types_Copy.calls (a0 := a0) hr3 hl4 hy31) rfl ?_)
      rintro _ _ _ _ ⟨rfl, A32, c33, rfl, rfl⟩
      refine TL.cons (TL.alloc (cs := [.int .i64 0, .int .i64 0, .slice none 0 0]) rfl rfl zr24 rfl (fun b35 => ?_))
      refine TL.cons (TL.store 0 (ds := [.int .i64 y30.f0, .int .i64 y30.f1, .slice A32 y30.f2.length c33]) (cs' := [.int .i64 y30.f0, .int .i64 y30.f1, .slice A32 y30.f2.length c33]) (L' := (Blk b35 [.int .i64 y30.f0, .int .i64 y30.f1, .slice A32 y30.f2.length c33] 24 :: Row k24 24 (.slice A32 y30.f2.length c33) y30.f2 :: Blk b29 [.int .i64 y24.f0, .int .i64 y24.f1, .slice A26 y24.f2.length c27] 24 :: Row k24 24 (.slice A26 y24.f2.length c27) y24.f2 :: Blk b10 [.int .i64 a1.f0, .int .i64 a1.f1, .slice A5 a1.f2.length c6] 24 :: Blk b9 [.int .i64 a0.f0, .int .i64 a0.f1, .slice A1 a0.f2.length c2] 24 :: L)) rfl fsz24 rfl rfl rfl rfl rfl (Nat.le_of_ble_eq_true rfl) rfl rfl ?_)
      refine TL.nil ?_
      refine TQ.then_ ?_
      refine TC.seq ?_
      refine TC.region ?_
      refine TL.cons (TO.val rfl rfl rfl (Val.loadsB 5 (cs := [.int .i64 a0.f0, .int .i64 a0.f1, .slice A1 a0.f2.length c2]) agg24 fsz24 rfl rfl rfl rfl) ?_)
      obtain ⟨y36, hy37, h⟩ := bind_no h
      refine TL.cons (TL.callV (Lin := []) (args := [.agg #[.int .i64 a0.f0, .int .i64 a0.f1, .slice A1 a0.f2.length c2]]) rfl rfl rfl hbd11 rfl rfl (types_Pointer.calls (a0 := a0) hr3 hl4 hy37) rfl ?_)
      rintro _ _ _ _ ⟨rfl, A38, c39, rfl, rfl⟩
      refine TL.cons (TL.alloc (cs := [.int .i64 0, .int .i64 0, .slice none 0 0]) rfl rfl zr24 rfl (fun b41 => ?_))
      refine TL.cons (TL.store 0 (ds := [.int .i64 y36.f0, .int .i64 y36.f1, .slice A38 y36.f2.length c39]) (cs' := [.int .i64 y36.f0, .int .i64 y36.f1, .slice A38 y36.f2.length c39]) (L' := (Blk b41 [.int .i64 y36.f0, .int .i64 y36.f1, .slice A38 y36.f2.length c39] 24 :: Row k24 24 (.slice A38 y36.f2.length c39) y36.f2 :: Blk b35 [.int .i64 y30.f0, .int .i64 y30.f1, .slice A32 y30.f2.length c33] 24 :: Row k24 24 (.slice A32 y30.f2.length c33) y30.f2 :: Blk b29 [.int .i64 y24.f0, .int .i64 y24.f1, .slice A26 y24.f2.length c27] 24 :: Row k24 24 (.slice A26 y24.f2.length c27) y24.f2 :: Blk b10 [.int .i64 a1.f0, .int .i64 a1.f1, .slice A5 a1.f2.length c6] 24 :: Blk b9 [.int .i64 a0.f0, .int .i64 a0.f1, .slice A1 a0.f2.length c2] 24 :: L)) rfl fsz24 rfl rfl rfl rfl rfl (Nat.le_of_ble_eq_true rfl) rfl rfl ?_)
      refine TL.nil ?_
      refine TQ.then_ ?_
      refine TC.seq ?_
      obtain ⟨j119, hj119, h⟩ := jn_no h
      refine TC.tail (fun a W => ∃ (x118 : Bool), j119 x118 = some r ∧ Fr 141 a [(2, .int .i64 a2), (3, .pointer (some ⟨b9, 0, none⟩)), (4, .pointer (some ⟨b10, 0, none⟩)), (7, .bool y11), (9, .pointer (some ⟨b29, 0, none⟩)), (10, .pointer (some ⟨b35, 0, none⟩)), (11, .pointer (some ⟨b41, 0, none⟩)), (12, .bool x118)] ∧ Own G (Blk b10 [.int .i64 a1.f0, .int .i64 a1.f1, .slice A5 a1.f2.length c6] 24 :: Blk b29 [.int .i64 y24.f0, .int .i64 y24.f1, .slice A26 y24.f2.length c27] 24 :: Blk b35 [.int .i64 y30.f0, .int .i64 y30.f1, .slice A32 y30.f2.length c33] 24 :: Blk b41 [.int .i64 y36.f0, .int .i64 y36.f1, .slice A38 y36.f2.length c39] 24 :: Blk b9 [.int .i64 a0.f0, .int .i64 a0.f1, .slice A1 a0.f2.length c2] 24 :: Row k24 24 (.slice A26 y24.f2.length c27) y24.f2 :: Row k24 24 (.slice A32 y30.f2.length c33) y30.f2 :: Row k24 24 (.slice A38 y36.f2.length c39) y36.f2 :: L) W) ?_ ?_
      · rintro a W ⟨x118, h, hF, hO⟩
        rw [hj119] at h
        refine TQ.use ?_ hF hO
        clear hF hO
        refine TQ.then_ ?_
        refine TC.seq ?_
        refine TC.seq ?_
        refine TC.region ?_
        refine TL.cons (TO.val rfl rfl rfl (Val.assign rfl) ?_)
        refine TL.nil ?_
        refine TQ.then_ ?_
        obtain ⟨o192, ho192, ko192⟩ := bind_no h
        clear h
        refine TC.tail (fun a W => () = o192 ∧ Fr 141 a [(2, .int .i64 a2), (3, .pointer (some ⟨b9, 0, none⟩)), (4, .pointer (some ⟨b10, 0, none⟩)), (7, .bool y11), (9, .pointer (some ⟨b29, 0, none⟩)), (11, .pointer (some ⟨b41, 0, none⟩)), (12, .bool x118)] ∧ Own G (Blk b10 [.int .i64 a1.f0, .int .i64 a1.f1, .slice A5 a1.f2.length c6] 24 :: Blk b29 [.int .i64 y24.f0, .int .i64 y24.f1, .slice A26 y24.f2.length c27] 24 :: Blk b41 [.int .i64 y36.f0, .int .i64 y36.f1, .slice A38 y36.f2.length c39] 24 :: Blk b9 [.int .i64 a0.f0, .int .i64 a0.f1, .slice A1 a0.f2.length c2] 24 :: Row k24 24 (.slice A26 y24.f2.length c27) y24.f2 :: Row k24 24 (.slice A38 y36.f2.length c39) y36.f2 :: L) W) ?_ ?_
        · rintro a W ⟨rfl, hF, hO⟩
          have h := ko192
          clear ko192 ho192
          refine TQ.use ?_ hF hO
          clear hF hO
          refine TQ.then_ ?_
          refine TC.seq ?_
          refine TC.seq ?_
          refine TC.region ?_
          refine TL.cons (TO.val rfl rfl rfl (Val.move rfl) ?_)
          refine TL.nil ?_
          refine TQ.then_ ?_
          obtain ⟨j215, hj215, h⟩ := jn_no h
          refine TC.tail (fun a W => j215 = some r ∧ Fr 141 a [(2, .int .i64 a2), (3, .pointer (some ⟨b9, 0, none⟩)), (4, .pointer (some ⟨b10, 0, none⟩)), (7, .bool y11), (9, .pointer (some ⟨b29, 0, none⟩)), (12, .bool x118)] ∧ Own G (Blk b10 [.int .i64 a1.f0, .int .i64 a1.f1, .slice A5 a1.f2.length c6] 24 :: Blk b29 [.int .i64 y24.f0, .int .i64 y24.f1, .slice A26 y24.f2.length c27] 24 :: Blk b9 [.int .i64 a0.f0, .int .i64 a0.f1, .slice A1 a0.f2.length c2] 24 :: Row k24 24 (.slice A26 y24.f2.length c27) y24.f2 :: L) W) ?_ ?_
          · rintro a W ⟨h, hF, hO⟩
            rw [hj215] at h
            refine TQ.use ?_ hF hO
            clear hF hO
            refine TQ.then_ ?_
            refine TC.seq ?_
            refine TC.region ?_
            refine TL.cons (TO.val rfl rfl rfl (Val.loadsB 2 (cs := [.int .i64 a0.f0, .int .i64 a0.f1, .slice A1 a0.f2.length c2]) agg24 fsz24 rfl rfl rfl rfl) ?_)
            refine TL.cons (TO.val rfl rfl rfl (Val.move rfl) ?_)
            obtain ⟨y216, hy217, h⟩ := bind_no h
            refine TL.cons (TL.callV (Lin := []) (args := [.agg #[.int .i64 a0.f0, .int .i64 a0.f1, .slice A1 a0.f2.length c2], .int .i64 a2]) rfl rfl rfl hbd13 rfl rfl (types_Offset.calls (a0 := a0) (a1 := a2) hr3 hl4 hy217) rfl ?_)
            rintro _ _ _ _ ⟨rfl, rfl, rfl⟩
            refine TL.cons (TO.val rfl rfl rfl (Val.move rfl) ?_)
            refine TL.cons (TO.val rfl rfl rfl (Val.extract rfl rfl) ?_)
            refine TL.cons (TO.val rfl rfl rfl (Val.extract rfl rfl) ?_)
            refine TL.cons (TO.val rfl rfl rfl (Val.assign rfl) ?_)
            refine TL.cons (TO.val rfl rfl rfl (Val.assign rfl) ?_)
            refine TL.nil ?_
            refine TQ.then_ ?_
            refine TC.seq ?_
            refine TC.region ?_
            refine TL.cons (TO.val rfl rfl rfl (Val.loadsB 2 (cs := [.int .i64 a0.f0, .int .i64 a0.f1, .slice A1 a0.f2.length c2]) agg24 fsz24 rfl rfl rfl rfl) ?_)
            refine TL.cons (TO.val rfl rfl rfl (Val.move rfl) ?_)
            obtain ⟨y218, hy219, h⟩ := bind_no h
            refine TL.cons (TL.callV (Lin := []) (args := [.agg #[.int .i64 a0.f0, .int .i64 a0.f1, .slice A1 a0.f2.length c2], .int .i64 a2]) rfl rfl rfl hbd14 rfl rfl (swageref11_Offset.calls (a0 := a0) (a1 := a2) hr3 hl4 hy219) rfl ?_)
            rintro _ _ _ _ ⟨rfl, rfl, rfl⟩
            refine TL.cons (TO.val rfl rfl rfl (Val.move rfl) ?_)
            refine TL.cons (TO.val rfl rfl rfl (Val.extract rfl rfl) ?_)
            refine TL.cons (TO.val rfl rfl rfl (Val.extract rfl rfl) ?_)
            refine TL.cons (TO.val rfl rfl rfl (Val.assign rfl) ?_)
            refine TL.cons (TO.val rfl rfl rfl (Val.assign rfl) ?_)
            refine TL.nil ?_
            refine TQ.then_ ?_
            refine TC.seq ?_
            refine TC.sel (Ls := [Row k24 24 (.slice A26 y24.f2.length c27) y24.f2, Blk b10 [.int .i64 a1.f0, .int .i64 a1.f1, .slice A5 a1.f2.length c6] 24, Blk b29 [.int .i64 y24.f0, .int .i64 y24.f1, .slice A26 y24.f2.length c27] 24, Blk b9 [.int .i64 a0.f0, .int .i64 a0.f1, .slice A1 a0.f2.length c2] 24]) [3, 0, 1, 2] 4 rfl rfl rfl ?_
            refine TC.share (fun G385 e386 hs387 hb388 => ?_)
            have rd389 : Rd G385 k24 A26 y24.f2 := Rd.row hs387
            have le390 : y24.f2.length ≤ c27 := Row.le hs387
            refine TC.regionAny [] [0, 1, 2, 3, 4, 5, 6, 7, 8, 9, 10, 11, 12, 13, 14, 15, 16, 17, 18, 19, 20, 21, 22, 23, 24, 25, 26, 27, 28, 29, 30, 31, 32, 33, 34, 35, 36, 37, 38, 39, 40, 41, 42, 43, 44, 45, 46, 47, 48, 49, 50, 51, 52, 53, 54, 55, 56] mixed (by kernel_rfl) ?_
            refine TA.take 0 rfl (by kernel_rfl) rfl (PQ.then_ PQ.body) rfl (Val.move rfl) (fun W hO => hO) ?_
            refine TA.take 1 rfl (by kernel_rfl) rfl (PQ.then_ PQ.body) rfl (Val.move rfl) (fun W hO => hO) ?_
            refine TK.split (p := y11 = true) h (fun hg391 h => ?_) (fun hg391 h => ?_)
            · have hk392 : y11 = true := hg391
              refine TA.take 2 rfl (by kernel_rfl) rfl (PQ.then_ PQ.body) (Wt.yes rfl rfl rfl hk392) (Val.move rfl) (fun W hO => hO) ?_
              refine TA.take 3 rfl (by kernel_rfl) rfl (PQ.then_ PQ.body) rfl (Val.pickY rfl hk392 rfl) (fun W hO => hO) ?_
              refine TA.take 4 rfl (by kernel_rfl) rfl (PQ.then_ PQ.body) rfl (Val.move rfl) (fun W hO => hO) ?_
              refine TK.split (p := x118 = true) h (fun hg393 h => ?_) (fun hg393 h => ?_)
              · have hk394 : x118 = true := hg393
                refine TA.take 5 rfl (by kernel_rfl) rfl (PQ.then_ PQ.body) (Wt.yes rfl rfl rfl hk394) (Val.loadsB 2 (cs := [.int .i64 a0.f0, .int .i64 a0.f1, .slice A1 a0.f2.length c2]) agg24 fsz24 rfl rfl rfl rfl) (fun W hO => hO) ?_
                refine TA.take 7 rfl (by kernel_rfl) rfl (PQ.then_ PQ.body) (Wt.yes rfl rfl rfl hk394) (Val.loadsB 2 (cs := [.int .i64 a0.f0, .int .i64 a0.f1, .slice A1 a0.f2.length c2]) agg24 fsz24 rfl rfl rfl rfl) (fun W hO => hO) ?_
                obtain ⟨y395, hy396, h⟩ := bind_no h
                refine TA.eff 6 rfl (by kernel_rfl) rfl (TL.callV (Lin := []) (args := [.agg #[.int .i64 a0.f0, .int .i64 a0.f1, .slice A1 a0.f2.length c2]]) (Wt.yes rfl rfl rfl hk394) rfl rfl hbd15 rfl rfl (types_Right.calls (a0 := a0) (hr3.up e386) hl4 hy396) rfl ?_)
                rintro _ _ _ _ ⟨rfl, rfl, rfl⟩
                refine TA.next (fun W hO => hO) ?_
                obtain ⟨y397, hy398, h⟩ := bind_no h
                refine TA.eff 8 rfl (by kernel_rfl) rfl (TL.callV (Lin := []) (args := [.agg #[.int .i64 a0.f0, .int .i64 a0.f1, .slice A1 a0.f2.length c2]]) (Wt.yes rfl rfl rfl hk394) rfl rfl hbd16 rfl rfl (swageref11_Right.calls (a0 := a0) (hr3.up e386) hl4 hy398) rfl ?_)
                rintro _ _ _ _ ⟨rfl, rfl, rfl⟩
                refine TA.next (fun W hO => hO) ?_
                refine TA.take 9 rfl (by kernel_rfl) rfl (PQ.then_ PQ.body) (Wt.yes rfl rfl rfl hk394) (Val.eqB Tryd.underlying4 rfl rfl) (fun W hO => hO) ?_
                refine TA.take 10 rfl (by kernel_rfl) rfl (PQ.then_ PQ.body) rfl (Val.pickY rfl hk394 rfl) (fun W hO => hO) ?_
                refine TA.take 11 rfl (by kernel_rfl) rfl (PQ.then_ PQ.body) rfl (Val.move rfl) (fun W hO => hO) ?_
                refine TK.split (p := (y395 == y397) = true) h (fun hg399 h => ?_) (fun hg399 h => ?_)
                · have hk400 : (y395 == y397) = true := hg399
                  refine TA.take 12 rfl (by kernel_rfl) rfl (PQ.then_ PQ.body) (Wt.yes rfl rfl rfl hk400) (Val.loadsB 2 (cs := [.int .i64 a0.f0, .int .i64 a0.f1, .slice A1 a0.f2.length c2]) agg24 fsz24 rfl rfl rfl rfl) (fun W hO => hO) ?_
                  refine TA.take 14 rfl (by kernel_rfl) rfl (PQ.then_ PQ.body) (Wt.yes rfl rfl rfl hk400) (Val.loadsB 2 (cs := [.int .i64 a0.f0, .int .i64 a0.f1, .slice A1 a0.f2.length c2]) agg24 fsz24 rfl rfl rfl rfl) (fun W hO => hO) ?_
                  obtain ⟨y401, hy402, h⟩ := bind_no h
                  refine TA.eff 13 rfl (by kernel_rfl) rfl (TL.callV (Lin := []) (args := [.agg #[.int .i64 a0.f0, .int .i64 a0.f1, .slice A1 a0.f2.length c2]]) (Wt.yes rfl rfl rfl hk400) rfl rfl hbd17 rfl rfl (types_Size.calls (a0 := a0) (hr3.up e386) hl4 hy402) rfl ?_)
                  rintro _ _ _ _ ⟨rfl, rfl, rfl⟩
                  refine TA.next (fun W hO => hO) ?_
                  obtain ⟨y403, hy404, h⟩ := bind_no h
                  refine TA.eff 15 rfl (by kernel_rfl) rfl (TL.callV (Lin := []) (args := [.agg #[.int .i64 a0.f0, .int .i64 a0.f1, .slice A1 a0.f2.length c2]]) (Wt.yes rfl rfl rfl hk400) rfl rfl hbd18 rfl rfl (swageref11_Size.calls (a0 := a0) (hr3.up e386) hl4 hy404) rfl ?_)
                  rintro _ _ _ _ ⟨rfl, rfl, rfl⟩
                  refine TA.next (fun W hO => hO) ?_
                  refine TA.take 16 rfl (by kernel_rfl) rfl (PQ.then_ PQ.body) (Wt.yes rfl rfl rfl hk400) (Val.cmp rfl rfl run_eql) (fun W hO => hO) ?_
                  refine TA.take 17 rfl (by kernel_rfl) rfl (PQ.then_ PQ.body) rfl (Val.pickY rfl hk400 rfl) (fun W hO => hO) ?_
                  refine TA.take 18 rfl (by kernel_rfl) rfl (PQ.then_ PQ.body) rfl (Val.move rfl) (fun W hO => hO) ?_
                  refine TK.split (p := y401 = y403) h (fun hg405 h => ?_) (fun hg405 h => ?_)
                  · have hk406 : decide (y401 = y403) = true := decide_eq_true hg405
                    refine TA.take 19 rfl (by kernel_rfl) rfl (PQ.then_ PQ.body) (Wt.yes rfl rfl rfl hk406) (Val.move rfl) (fun W hO => hO) ?_
                    refine TA.take 20 rfl (by kernel_rfl) rfl (PQ.then_ PQ.body) (Wt.yes rfl rfl rfl hk406) (Val.move rfl) (fun W hO => hO) ?_
                    refine TA.take 21 rfl (by kernel_rfl) rfl (PQ.then_ PQ.body) (Wt.yes rfl rfl rfl hk406) (Val.cmp rfl rfl run_eql) (fun W hO => hO) ?_
                    refine TA.take 22 rfl (by kernel_rfl) rfl (PQ.then_ PQ.body) rfl (Val.pickY rfl hk406 rfl) (fun W hO => hO) ?_
                    refine TA.take 23 rfl (by kernel_rfl) rfl (PQ.then_ PQ.body) rfl (Val.move rfl) (fun W hO => hO) ?_
                    refine TK.split (p := y216.1 = y218.1) h (fun hg407 h => ?_) (fun hg407 h => ?_)
                    · have hk408 : decide (y216.1 = y218.1) = true := decide_eq_true hg407
                      refine TA.take 24 rfl (by kernel_rfl) rfl (PQ.then_ PQ.body) (Wt.yes rfl rfl rfl hk408) (Val.move rfl) (fun W hO => hO) ?_
                      refine TA.take 25 rfl (by kernel_rfl) rfl (PQ.then_ PQ.body) (Wt.yes rfl rfl rfl hk408) (Val.move rfl) (fun W hO => hO) ?_
                      refine TA.take 26 rfl (by kernel_rfl) rfl (PQ.then_ PQ.body) (Wt.yes rfl rfl rfl hk408) (Val.eqB Tryd.underlying4 rfl rfl) (fun W hO => hO) ?_
                      refine TA.take 27 rfl (by kernel_rfl) rfl (PQ.then_ PQ.body) rfl (Val.pickY rfl hk408 rfl) (fun W hO => hO) ?_
                      refine TA.take 28 rfl (by kernel_rfl) rfl (PQ.then_ PQ.body) rfl (Val.move rfl) (fun W hO => hO) ?_
                      refine TK.split (p := (y216.2 == y218.2) = true) h (fun hg409 h => ?_) (fun hg409 h => ?_)
                      · have hk410 : (y216.2 == y218.2) = true := hg409
                        refine TA.take 29 rfl (by kernel_rfl) rfl (PQ.then_ PQ.body) (Wt.yes rfl rfl rfl hk410) (Val.loadsB 2 (cs := [.int .i64 a0.f0, .int .i64 a0.f1, .slice A1 a0.f2.length c2]) agg24 fsz24 rfl rfl rfl rfl) (fun W hO => hO) ?_
                        refine TA.take 30 rfl (by kernel_rfl) rfl (PQ.then_ PQ.body) (Wt.yes rfl rfl rfl hk410) (Val.loadsB 0 (cs := [.int .i64 a1.f0, .int .i64 a1.f1, .slice A5 a1.f2.length c6]) agg24 fsz24 rfl rfl rfl rfl) (fun W hO => hO) ?_
                        refine TA.take 32 rfl (by kernel_rfl) rfl (PQ.then_ PQ.body) (Wt.yes rfl rfl rfl hk410) (Val.loadsB 2 (cs := [.int .i64 a0.f0, .int .i64 a0.f1, .slice A1 a0.f2.length c2]) agg24 fsz24 rfl rfl rfl rfl) (fun W hO => hO) ?_
                        refine TA.take 33 rfl (by kernel_rfl) rfl (PQ.then_ PQ.body) (Wt.yes rfl rfl rfl hk410) (Val.loadsB 0 (cs := [.int .i64 a1.f0, .int .i64 a1.f1, .slice A5 a1.f2.length c6]) agg24 fsz24 rfl rfl rfl rfl) (fun W hO => hO) ?_
                        obtain ⟨y411, hy412, h⟩ := bind_no h
                        refine TA.eff 31 rfl (by kernel_rfl) rfl (TL.callV (Lin := []) (args := [.agg #[.int .i64 a0.f0, .int .i64 a0.f1, .slice A1 a0.f2.length c2], .agg #[.int .i64 a1.f0, .int .i64 a1.f1, .slice A5 a1.f2.length c6]]) (Wt.yes rfl rfl rfl hk410) rfl rfl hbd19 rfl rfl (types_Same.calls (a0 := a0) (a1 := a1) (hr3.up e386) hl4 (hr7.up e386) hl8 hy412) rfl ?_)
                        rintro _ _ _ _ ⟨rfl, rfl, rfl⟩
                        refine TA.next (fun W hO => hO) ?_
                        obtain ⟨y413, hy414, h⟩ := bind_no h
                        refine TA.eff 34 rfl (by kernel_rfl) rfl (TL.callV (Lin := []) (args := [.agg #[.int .i64 a0.f0, .int .i64 a0.f1, .slice A1 a0.f2.length c2], .agg #[.int .i64 a1.f0, .int .i64 a1.f1, .slice A5 a1.f2.length c6]]) (Wt.yes rfl rfl rfl hk410) rfl rfl hbd12 rfl rfl (swageref11_Same.calls (a0 := a0) (a1 := a1) (hr3.up e386) hl4 (hr7.up e386) hl8 hy414) rfl ?_)
                        rintro _ _ _ _ ⟨rfl, rfl, rfl⟩
                        refine TA.next (fun W hO => hO) ?_
                        refine TA.take 35 rfl (by kernel_rfl) rfl (PQ.then_ PQ.body) (Wt.yes rfl rfl rfl hk410) (Val.eqB Tryd.underlying4 rfl rfl) (fun W hO => hO) ?_
                        refine TA.take 36 rfl (by kernel_rfl) rfl (PQ.then_ PQ.body) rfl (Val.pickY rfl hk410 rfl) (fun W hO => hO) ?_
                        refine TA.take 37 rfl (by kernel_rfl) rfl (PQ.then_ PQ.body) rfl (Val.move rfl) (fun W hO => hO) ?_
                        refine TK.split (p := (y411 == y413) = true) h (fun hg415 h => ?_) (fun hg415 h => ?_)
                        · have hk416 : (y411 == y413) = true := hg415
                          refine TA.take 38 rfl (by kernel_rfl) rfl (PQ.then_ PQ.body) (Wt.yes rfl rfl rfl hk416) (Val.loadsB 2 (cs := [.int .i64 a0.f0, .int .i64 a0.f1, .slice A1 a0.f2.length c2]) agg24 fsz24 rfl rfl rfl rfl) (fun W hO => hO) ?_
                          refine TA.take 40 rfl (by kernel_rfl) rfl (PQ.then_ PQ.body) (Wt.yes rfl rfl rfl hk416) (Val.loadsB 2 (cs := [.int .i64 a0.f0, .int .i64 a0.f1, .slice A1 a0.f2.length c2]) agg24 fsz24 rfl rfl rfl rfl) (fun W hO => hO) ?_
                          obtain ⟨y417, hy418, h⟩ := bind_no h
                          refine TA.eff 39 rfl (by kernel_rfl) rfl (TL.callV (Lin := []) (args := [.agg #[.int .i64 a0.f0, .int .i64 a0.f1, .slice A1 a0.f2.length c2]]) (Wt.yes rfl rfl rfl hk416) rfl rfl hbd20 rfl rfl (types_Scalar.calls (a0 := a0) (hr3.up e386) hl4 hy418) rfl ?_)
                          rintro _ _ _ _ ⟨rfl, rfl, rfl⟩
                          refine TA.next (fun W hO => hO) ?_
                          obtain ⟨y419, hy420, h⟩ := bind_no h
                          refine TA.eff 41 rfl (by kernel_rfl) rfl (TL.callV (Lin := []) (args := [.agg #[.int .i64 a0.f0, .int .i64 a0.f1, .slice A1 a0.f2.length c2]]) (Wt.yes rfl rfl rfl hk416) rfl rfl hbd21 rfl rfl (swageref11_Scalar.calls (a0 := a0) (hr3.up e386) hl4 hy420) rfl ?_)
                          rintro _ _ _ _ ⟨rfl, rfl, rfl⟩
                          refine TA.next (fun W hO => hO) ?_
                          refine TA.take 42 rfl (by kernel_rfl) rfl (PQ.then_ PQ.body) (Wt.yes rfl rfl rfl hk416) (Val.eqB Tryd.underlying4 rfl rfl) (fun W hO => hO) ?_
                          refine TA.take 43 rfl (by kernel_rfl) rfl (PQ.then_ PQ.body) rfl (Val.pickY rfl hk416 rfl) (fun W hO => hO) ?_
                          refine TA.take 44 rfl (by kernel_rfl) rfl (PQ.then_ PQ.body) rfl (Val.move rfl) (fun W hO => hO) ?_
                          refine TK.split (p := (y417 == y419) = true) h (fun hg421 h => ?_) (fun hg421 h => ?_)
                          · have hk422 : (y417 == y419) = true := hg421
                            refine TA.take 45 rfl (by kernel_rfl) rfl (PQ.then_ PQ.body) (Wt.yes rfl rfl rfl hk422) (Val.loadsB 2 (cs := [.int .i64 a0.f0, .int .i64 a0.f1, .slice A1 a0.f2.length c2]) agg24 fsz24 rfl rfl rfl rfl) (fun W hO => hO) ?_
                            refine TA.take 47 rfl (by kernel_rfl) rfl (PQ.then_ PQ.body) (Wt.yes rfl rfl rfl hk422) (Val.loadsB 2 (cs := [.int .i64 a0.f0, .int .i64 a0.f1, .slice A1 a0.f2.length c2]) agg24 fsz24 rfl rfl rfl rfl) (fun W hO => hO) ?_
                            obtain ⟨y423, hy424, h⟩ := bind_no h
                            refine TA.eff 46 rfl (by kernel_rfl) rfl (TL.callV (Lin := []) (args := [.agg #[.int .i64 a0.f0, .int .i64 a0.f1, .slice A1 a0.f2.length c2]]) (Wt.yes rfl rfl rfl hk422) rfl rfl hbd22 rfl rfl (types_Text.calls (a0 := a0) (ht.up e386) (hr3.up e386) hl4 hy424) rfl ?_)
                            rintro _ _ _ _ ⟨rfl, rfl, rfl⟩
                            refine TA.next (fun W hO => hO) ?_
                            obtain ⟨y425, hy426, h⟩ := bind_no h
                            refine TA.eff 48 rfl (by kernel_rfl) rfl (TL.callV (Lin := []) (args := [.agg #[.int .i64 a0.f0, .int .i64 a0.f1, .slice A1 a0.f2.length c2]]) (Wt.yes rfl rfl rfl hk422) rfl rfl hbd23 rfl rfl (swageref11_Text.calls (a0 := a0) (hr3.up e386) hl4 hy426) rfl ?_)
                            rintro _ _ _ _ ⟨rfl, rfl, rfl⟩
                            refine TA.next (fun W hO => hO) ?_
                            refine TA.take 49 rfl (by kernel_rfl) rfl (PQ.then_ PQ.body) (Wt.yes rfl rfl rfl hk422) (Val.eqT rfl rfl) (fun W hO => hO) ?_
                            refine TA.take 50 rfl (by kernel_rfl) rfl (PQ.then_ PQ.body) rfl (Val.pickY rfl hk422 rfl) (fun W hO => hO) ?_
                            refine TA.take 51 rfl (by kernel_rfl) rfl (PQ.then_ PQ.body) rfl (Val.move rfl) (fun W hO => hO) ?_
                            refine TK.split (p := (y423.data.toList == y425.data.toList) = true) h (fun hg427 h => ?_) (fun hg427 h => ?_)
                            · have hk428 : (y423.data.toList == y425.data.toList) = true := hg427
                              refine TA.take 52 rfl (by kernel_rfl) rfl (PQ.then_ PQ.body) (Wt.yes rfl rfl rfl hk428) (Val.loadsB 2 (cs := [.int .i64 a0.f0, .int .i64 a0.f1, .slice A1 a0.f2.length c2]) agg24 fsz24 rfl rfl rfl rfl) (fun W hO => hO) ?_
                              refine TA.take 53 rfl (by kernel_rfl) rfl (PQ.then_ PQ.body) (Wt.yes rfl rfl rfl hk428) (Val.loadsB 1 (cs := [.int .i64 y24.f0, .int .i64 y24.f1, .slice A26 y24.f2.length c27]) agg24 fsz24 rfl rfl rfl rfl) (fun W hO => hO) ?_
                              obtain ⟨y429, hy430, h⟩ := bind_no h
                              refine TA.eff 54 rfl (by kernel_rfl) rfl (TL.callV (Lin := []) (args := [.agg #[.int .i64 a0.f0, .int .i64 a0.f1, .slice A1 a0.f2.length c2], .agg #[.int .i64 y24.f0, .int .i64 y24.f1, .slice A26 y24.f2.length c27]]) (Wt.yes rfl rfl rfl hk428) rfl rfl hbd12 rfl rfl (swageref11_Same.calls (a0 := a0) (a1 := y24) (hr3.up e386) hl4 rd389 le390 hy430) rfl ?_)
                              rintro _ _ _ _ ⟨rfl, rfl, rfl⟩
                              refine TA.next (fun W hO => hO) ?_
                              refine TA.take 55 rfl (by kernel_rfl) rfl (PQ.then_ PQ.body) rfl (Val.pickY rfl hk428 rfl) (fun W hO => hO) ?_
                              refine TA.take 56 rfl (by kernel_rfl) rfl (PQ.then_ PQ.body) rfl (Val.assign rfl) (fun W hO => hO) ?_
                              refine TA.done (by kernel_rfl) ?_
                              refine TQ.then_ ?_
                              refine TC.ret ?_
                              refine TQ.back hb388 ?_
                              obtain rfl := Option.some.inj h
                              exact TQ.fin (.inl rfl) rfl Tryd.results3 (.tmp rfl .nil) rfl (FRel.mk (Ls := []) [] 4 (Gd.le.refl _) rfl rfl rfl ⟨rfl, rfl, rfl⟩)
                            · have hk431 : (y423.data.toList == y425.data.toList) = false := (by simpa using hg427)
                              refine TA.not 52 rfl (by kernel_rfl) rfl (PQ.then_ PQ.body) (Wt.no rfl rfl rfl hk431) (fun W hO => hO) ?_
                              refine TA.not 53 rfl (by kernel_rfl) rfl (PQ.then_ PQ.body) (Wt.no rfl rfl rfl hk431) (fun W hO => hO) ?_
                              refine TA.not 54 rfl (by kernel_rfl) rfl (PQ.then_ PQ.body) (Wt.no rfl rfl rfl hk431) (fun W hO => hO) ?_
                              refine TA.take 55 rfl (by kernel_rfl) rfl (PQ.then_ PQ.body) rfl (Val.pickN rfl hk431 rfl) (fun W hO => hO) ?_
                              refine TA.take 56 rfl (by kernel_rfl) rfl (PQ.then_ PQ.body) rfl (Val.assign rfl) (fun W hO => hO) ?_
                              refine TA.done (by kernel_rfl) ?_
                              refine TQ.then_ ?_
                              refine TC.ret ?_
                              refine TQ.back hb388 ?_
                              obtain rfl := Option.some.inj h
                              exact TQ.fin (.inl rfl) rfl Tryd.results3 (.tmp rfl .nil) rfl (FRel.mk (Ls := []) [] 4 (Gd.le.refl _) rfl rfl rfl ⟨rfl, rfl, rfl⟩)
                          · have hk432 : (y417 == y419) = false := (by simpa using hg421)
                            refine TA.not 45 rfl (by kernel_rfl) rfl (PQ.then_ PQ.body) (Wt.no rfl rfl rfl hk432) (fun W hO => hO) ?_
                            refine TA.not 46 rfl (by kernel_rfl) rfl (PQ.then_ PQ.body) (Wt.no rfl rfl rfl hk432) (fun W hO => hO) ?_
                            refine TA.not 47 rfl (by kernel_rfl) rfl (PQ.then_ PQ.body) (Wt.no rfl rfl rfl hk432) (fun W hO => hO) ?_
                            refine TA.not 48 rfl (by kernel_rfl) rfl (PQ.then_ PQ.body) (Wt.no rfl rfl rfl hk432) (fun W hO => hO) ?_
                            refine TA.not 49 rfl (by kernel_rfl) rfl (PQ.then_ PQ.body) (Wt.no rfl rfl rfl hk432) (fun W hO => hO) ?_
                            refine TA.take 50 rfl (by kernel_rfl) rfl (PQ.then_ PQ.body) rfl (Val.pickN rfl hk432 rfl) (fun W hO => hO) ?_
                            refine TA.take 51 rfl (by kernel_rfl) rfl (PQ.then_ PQ.body) rfl (Val.move rfl) (fun W hO => hO) ?_
                            refine TA.not 52 rfl (by kernel_rfl) rfl (PQ.then_ PQ.body) (Wt.no rfl rfl rfl rfl) (fun W hO => hO) ?_
                            refine TA.not 53 rfl (by kernel_rfl) rfl (PQ.then_ PQ.body) (Wt.no rfl rfl rfl rfl) (fun W hO => hO) ?_
                            refine TA.not 54 rfl (by kernel_rfl) rfl (PQ.then_ PQ.body) (Wt.no rfl rfl rfl rfl) (fun W hO => hO) ?_
                            refine TA.take 55 rfl (by kernel_rfl) rfl (PQ.then_ PQ.body) rfl (Val.pickN rfl rfl rfl) (fun W hO => hO) ?_
                            refine TA.take 56 rfl (by kernel_rfl) rfl (PQ.then_ PQ.body) rfl (Val.assign rfl) (fun W hO => hO) ?_
                            refine TA.done (by kernel_rfl) ?_
                            refine TQ.then_ ?_
                            refine TC.ret ?_
                            refine TQ.back hb388 ?_
                            obtain rfl := Option.some.inj h
                            exact TQ.fin (.inl rfl) rfl Tryd.results3 (.tmp rfl .nil) rfl (FRel.mk (Ls := []) [] 4 (Gd.le.refl _) rfl rfl rfl ⟨rfl, rfl, rfl⟩)
                        · have hk433 : (y411 == y413) = false := (by simpa using hg415)
                          refine TA.not 38 rfl (by kernel_rfl) rfl (PQ.then_ PQ.body) (Wt.no rfl rfl rfl hk433) (fun W hO => hO) ?_
                          refine TA.not 39 rfl (by kernel_rfl) rfl (PQ.then_ PQ.body) (Wt.no rfl rfl rfl hk433) (fun W hO => hO) ?_
                          refine TA.not 40 rfl (by kernel_rfl) rfl (PQ.then_ PQ.body) (Wt.no rfl rfl rfl hk433) (fun W hO => hO) ?_
                          refine TA.not 41 rfl (by kernel_rfl) rfl (PQ.then_ PQ.body) (Wt.no rfl rfl rfl hk433) (fun W hO => hO) ?_
                          refine TA.not 42 rfl (by kernel_rfl) rfl (PQ.then_ PQ.body) (Wt.no rfl rfl rfl hk433) (fun W hO => hO) ?_
                          refine TA.take 43 rfl (by kernel_rfl) rfl (PQ.then_ PQ.body) rfl (Val.pickN rfl hk433 rfl) (fun W hO => hO) ?_
                          refine TA.take 44 rfl (by kernel_rfl) rfl (PQ.then_ PQ.body) rfl (Val.move rfl) (fun W hO => hO) ?_
                          refine TA.not 45 rfl (by kernel_rfl) rfl (PQ.then_ PQ.body) (Wt.no rfl rfl rfl rfl) (fun W hO => hO) ?_
                          refine TA.not 46 rfl (by kernel_rfl) rfl (PQ.then_ PQ.body) (Wt.no rfl rfl rfl rfl) (fun W hO => hO) ?_
                          refine TA.not 47 rfl (by kernel_rfl) rfl (PQ.then_ PQ.body) (Wt.no rfl rfl rfl rfl) (fun W hO => hO) ?_
                          refine TA.not 48 rfl (by kernel_rfl) rfl (PQ.then_ PQ.body) (Wt.no rfl rfl rfl rfl) (fun W hO => hO) ?_
                          refine TA.not 49 rfl (by kernel_rfl) rfl (PQ.then_ PQ.body) (Wt.no rfl rfl rfl rfl) (fun W hO => hO) ?_
                          refine TA.take 50 rfl (by kernel_rfl) rfl (PQ.then_ PQ.body) rfl (Val.pickN rfl rfl rfl) (fun W hO => hO) ?_
                          refine TA.take 51 rfl (by kernel_rfl) rfl (PQ.then_ PQ.body) rfl (Val.move rfl) (fun W hO => hO) ?_
                          refine TA.not 52 rfl (by kernel_rfl) rfl (PQ.then_ PQ.body) (Wt.no rfl rfl rfl rfl) (fun W hO => hO) ?_
                          refine TA.not 53 rfl (by kernel_rfl) rfl (PQ.then_ PQ.body) (Wt.no rfl rfl rfl rfl) (fun W hO => hO) ?_
                          refine TA.not 54 rfl (by kernel_rfl) rfl (PQ.then_ PQ.body) (Wt.no rfl rfl rfl rfl) (fun W hO => hO) ?_
                          refine TA.take 55 rfl (by kernel_rfl) rfl (PQ.then_ PQ.body) rfl (Val.pickN rfl rfl rfl) (fun W hO => hO) ?_
                          refine TA.take 56 rfl (by kernel_rfl) rfl (PQ.then_ PQ.body) rfl (Val.assign rfl) (fun W hO => hO) ?_
                          refine TA.done (by kernel_rfl) ?_
                          refine TQ.then_ ?_
                          refine TC.ret ?_
                          refine TQ.back hb388 ?_
                          obtain rfl := Option.some.inj h
                          exact TQ.fin (.inl rfl) rfl Tryd.results3 (.tmp rfl .nil) rfl (FRel.mk (Ls := []) [] 4 (Gd.le.refl _) rfl rfl rfl ⟨rfl, rfl, rfl⟩)
                      · have hk434 : (y216.2 == y218.2) = false := (by simpa using hg409)
                        refine TA.not 29 rfl (by kernel_rfl) rfl (PQ.then_ PQ.body) (Wt.no rfl rfl rfl hk434) (fun W hO => hO) ?_
                        refine TA.not 30 rfl (by kernel_rfl) rfl (PQ.then_ PQ.body) (Wt.no rfl rfl rfl hk434) (fun W hO => hO) ?_
                        refine TA.not 31 rfl (by kernel_rfl) rfl (PQ.then_ PQ.body) (Wt.no rfl rfl rfl hk434) (fun W hO => hO) ?_
                        refine TA.not 32 rfl (by kernel_rfl) rfl (PQ.then_ PQ.body) (Wt.no rfl rfl rfl hk434) (fun W hO => hO) ?_
                        refine TA.not 33 rfl (by kernel_rfl) rfl (PQ.then_ PQ.body) (Wt.no rfl rfl rfl hk434) (fun W hO => hO) ?_
                        refine TA.not 34 rfl (by kernel_rfl) rfl (PQ.then_ PQ.body) (Wt.no rfl rfl rfl hk434) (fun W hO => hO) ?_
                        refine TA.not 35 rfl (by kernel_rfl) rfl (PQ.then_ PQ.body) (Wt.no rfl rfl rfl hk434) (fun W hO => hO) ?_
                        refine TA.take 36 rfl (by kernel_rfl) rfl (PQ.then_ PQ.body) rfl (Val.pickN rfl hk434 rfl) (fun W hO => hO) ?_
                        refine TA.take 37 rfl (by kernel_rfl) rfl (PQ.then_ PQ.body) rfl (Val.move rfl) (fun W hO => hO) ?_
                        refine TA.not 38 rfl (by kernel_rfl) rfl (PQ.then_ PQ.body) (Wt.no rfl rfl rfl rfl) (fun W hO => hO) ?_
                        refine TA.not 39 rfl (by kernel_rfl) rfl (PQ.then_ PQ.body) (Wt.no rfl rfl rfl rfl) (fun W hO => hO) ?_
                        refine TA.not 40 rfl (by kernel_rfl) rfl (PQ.then_ PQ.body) (Wt.no rfl rfl rfl rfl) (fun W hO => hO) ?_
                        refine TA.not 41 rfl (by kernel_rfl) rfl (PQ.then_ PQ.body) (Wt.no rfl rfl rfl rfl) (fun W hO => hO) ?_
                        refine TA.not 42 rfl (by kernel_rfl) rfl (PQ.then_ PQ.body) (Wt.no rfl rfl rfl rfl) (fun W hO => hO) ?_
                        refine TA.take 43 rfl (by kernel_rfl) rfl (PQ.then_ PQ.body) rfl (Val.pickN rfl rfl rfl) (fun W hO => hO) ?_
                        refine TA.take 44 rfl (by kernel_rfl) rfl (PQ.then_ PQ.body) rfl (Val.move rfl) (fun W hO => hO) ?_
                        refine TA.not 45 rfl (by kernel_rfl) rfl (PQ.then_ PQ.body) (Wt.no rfl rfl rfl rfl) (fun W hO => hO) ?_
                        refine TA.not 46 rfl (by kernel_rfl) rfl (PQ.then_ PQ.body) (Wt.no rfl rfl rfl rfl) (fun W hO => hO) ?_
                        refine TA.not 47 rfl (by kernel_rfl) rfl (PQ.then_ PQ.body) (Wt.no rfl rfl rfl rfl) (fun W hO => hO) ?_
                        refine TA.not 48 rfl (by kernel_rfl) rfl (PQ.then_ PQ.body) (Wt.no rfl rfl rfl rfl) (fun W hO => hO) ?_
                        refine TA.not 49 rfl (by kernel_rfl) rfl (PQ.then_ PQ.body) (Wt.no rfl rfl rfl rfl) (fun W hO => hO) ?_
                        refine TA.take 50 rfl (by kernel_rfl) rfl (PQ.then_ PQ.body) rfl (Val.pickN rfl rfl rfl) (fun W hO => hO) ?_
                        refine TA.take 51 rfl (by kernel_rfl) rfl (PQ.then_ PQ.body) rfl (Val.move rfl) (fun W hO => hO) ?_
                        refine TA.not 52 rfl (by kernel_rfl) rfl (PQ.then_ PQ.body) (Wt.no rfl rfl rfl rfl) (fun W hO => hO) ?_
                        refine TA.not 53 rfl (by kernel_rfl) rfl (PQ.then_ PQ.body) (Wt.no rfl rfl rfl rfl) (fun W hO => hO) ?_
                        refine TA.not 54 rfl (by kernel_rfl) rfl (PQ.then_ PQ.body) (Wt.no rfl rfl rfl rfl) (fun W hO => hO) ?_
                        refine TA.take 55 rfl (by kernel_rfl) rfl (PQ.then_ PQ.body) rfl (Val.pickN rfl rfl rfl) (fun W hO => hO) ?_
                        refine TA.take 56 rfl (by kernel_rfl) rfl (PQ.then_ PQ.body) rfl (Val.assign rfl) (fun W hO => hO) ?_
                        refine TA.done (by kernel_rfl) ?_
                        refine TQ.then_ ?_
                        refine TC.ret ?_
                        refine TQ.back hb388 ?_
                        obtain rfl := Option.some.inj h
                        exact TQ.fin (.inl rfl) rfl Tryd.results3 (.tmp rfl .nil) rfl (FRel.mk (Ls := []) [] 4 (Gd.le.refl _) rfl rfl rfl ⟨rfl, rfl, rfl⟩)
                    · have hk435 : decide (y216.1 = y218.1) = false := decide_eq_false hg407
                      refine TA.not 24 rfl (by kernel_rfl) rfl (PQ.then_ PQ.body) (Wt.no rfl rfl rfl hk435) (fun W hO => hO) ?_
                      refine TA.not 25 rfl (by kernel_rfl) rfl (PQ.then_ PQ.body) (Wt.no rfl rfl rfl hk435) (fun W hO => hO) ?_
                      refine TA.not 26 rfl (by kernel_rfl) rfl (PQ.then_ PQ.body) (Wt.no rfl rfl rfl hk435) (fun W hO => hO) ?_
                      refine TA.take 27 rfl (by kernel_rfl) rfl (PQ.then_ PQ.body) rfl (Val.pickN rfl hk435 rfl) (fun W hO => hO) ?_
                      refine TA.take 28 rfl (by kernel_rfl) rfl (PQ.then_ PQ.body) rfl (Val.move rfl) (fun W hO => hO) ?_
                      refine TA.not 29 rfl (by kernel_rfl) rfl (PQ.then_ PQ.body) (Wt.no rfl rfl rfl rfl) (fun W hO => hO) ?_
                      refine TA.not 30 rfl (by kernel_rfl) rfl (PQ.then_ PQ.body) (Wt.no rfl rfl rfl rfl) (fun W hO => hO) ?_
                      refine TA.not 31 rfl (by kernel_rfl) rfl (PQ.then_ PQ.body) (Wt.no rfl rfl rfl rfl) (fun W hO => hO) ?_
                      refine TA.not 32 rfl (by kernel_rfl) rfl (PQ.then_ PQ.body) (Wt.no rfl rfl rfl rfl) (fun W hO => hO) ?_
                      refine TA.not 33 rfl (by kernel_rfl) rfl (PQ.then_ PQ.body) (Wt.no rfl rfl rfl rfl) (fun W hO => hO) ?_
                      refine TA.not 34 rfl (by kernel_rfl) rfl (PQ.then_ PQ.body) (Wt.no rfl rfl rfl rfl) (fun W hO => hO) ?_
                      refine TA.not 35 rfl (by kernel_rfl) rfl (PQ.then_ PQ.body) (Wt.no rfl rfl rfl rfl) (fun W hO => hO) ?_
                      refine TA.take 36 rfl (by kernel_rfl) rfl (PQ.then_ PQ.body) rfl (Val.pickN rfl rfl rfl) (fun W hO => hO) ?_
                      refine TA.take 37 rfl (by kernel_rfl) rfl (PQ.then_ PQ.body) rfl (Val.move rfl) (fun W hO => hO) ?_
                      refine TA.not 38 rfl (by kernel_rfl) rfl (PQ.then_ PQ.body) (Wt.no rfl rfl rfl rfl) (fun W hO => hO) ?_
                      refine TA.not 39 rfl (by kernel_rfl) rfl (PQ.then_ PQ.body) (Wt.no rfl rfl rfl rfl) (fun W hO => hO) ?_
                      refine TA.not 40 rfl (by kernel_rfl) rfl (PQ.then_ PQ.body) (Wt.no rfl rfl rfl rfl) (fun W hO => hO) ?_
                      refine TA.not 41 rfl (by kernel_rfl) rfl (PQ.then_ PQ.body) (Wt.no rfl rfl rfl rfl) (fun W hO => hO) ?_
                      refine TA.not 42 rfl (by kernel_rfl) rfl (PQ.then_ PQ.body) (Wt.no rfl rfl rfl rfl) (fun W hO => hO) ?_
                      refine TA.take 43 rfl (by kernel_rfl) rfl (PQ.then_ PQ.body) rfl (Val.pickN rfl rfl rfl) (fun W hO => hO) ?_
                      refine TA.take 44 rfl (by kernel_rfl) rfl (PQ.then_ PQ.body) rfl (Val.move rfl) (fun W hO => hO) ?_
                      refine TA.not 45 rfl (by kernel_rfl) rfl (PQ.then_ PQ.body) (Wt.no rfl rfl rfl rfl) (fun W hO => hO) ?_
                      refine TA.not 46 rfl (by kernel_rfl) rfl (PQ.then_ PQ.body) (Wt.no rfl rfl rfl rfl) (fun W hO => hO) ?_
                      refine TA.not 47 rfl (by kernel_rfl) rfl (PQ.then_ PQ.body) (Wt.no rfl rfl rfl rfl) (fun W hO => hO) ?_
                      refine TA.not 48 rfl (by kernel_rfl) rfl (PQ.then_ PQ.body) (Wt.no rfl rfl rfl rfl) (fun W hO => hO) ?_
                      refine TA.not 49 rfl (by kernel_rfl) rfl (PQ.then_ PQ.body) (Wt.no rfl rfl rfl rfl) (fun W hO => hO) ?_
                      refine TA.take 50 rfl (by kernel_rfl) rfl (PQ.then_ PQ.body) rfl (Val.pickN rfl rfl rfl) (fun W hO => hO) ?_
                      refine TA.take 51 rfl (by kernel_rfl) rfl (PQ.then_ PQ.body) rfl (Val.move rfl) (fun W hO => hO) ?_
                      refine TA.not 52 rfl (by kernel_rfl) rfl (PQ.then_ PQ.body) (Wt.no rfl rfl rfl rfl) (fun W hO => hO) ?_
                      refine TA.not 53 rfl (by kernel_rfl) rfl (PQ.then_ PQ.body) (Wt.no rfl rfl rfl rfl) (fun W hO => hO) ?_
                      refine TA.not 54 rfl (by kernel_rfl) rfl (PQ.then_ PQ.body) (Wt.no rfl rfl rfl rfl) (fun W hO => hO) ?_
                      refine TA.take 55 rfl (by kernel_rfl) rfl (PQ.then_ PQ.body) rfl (Val.pickN rfl rfl rfl) (fun W hO => hO) ?_
                      refine TA.take 56 rfl (by kernel_rfl) rfl (PQ.then_ PQ.body) rfl (Val.assign rfl) (fun W hO => hO) ?_
                      refine TA.done (by kernel_rfl) ?_
                      refine TQ.then_ ?_
                      refine TC.ret ?_
                      refine TQ.back hb388 ?_
                      obtain rfl := Option.some.inj h
                      exact TQ.fin (.inl rfl) rfl Tryd.results3 (.tmp rfl .nil) rfl (FRel.mk (Ls := []) [] 4 (Gd.le.refl _) rfl rfl rfl ⟨rfl, rfl, rfl⟩)
                  · have hk436 : decide (y401 = y403) = false := decide_eq_false hg405
                    refine TA.not 19 rfl (by kernel_rfl) rfl (PQ.then_ PQ.body) (Wt.no rfl rfl rfl hk436) (fun W hO => hO) ?_
                    refine TA.not 20 rfl (by kernel_rfl) rfl (PQ.then_ PQ.body) (Wt.no rfl rfl rfl hk436) (fun W hO => hO) ?_
                    refine TA.not 21 rfl (by kernel_rfl) rfl (PQ.then_ PQ.body) (Wt.no rfl rfl rfl hk436) (fun W hO => hO) ?_
                    refine TA.take 22 rfl (by kernel_rfl) rfl (PQ.then_ PQ.body) rfl (Val.pickN rfl hk436 rfl) (fun W hO => hO) ?_
                    refine TA.take 23 rfl (by kernel_rfl) rfl (PQ.then_ PQ.body) rfl (Val.move rfl) (fun W hO => hO) ?_
                    refine TA.not 24 rfl (by kernel_rfl) rfl (PQ.then_ PQ.body) (Wt.no rfl rfl rfl rfl) (fun W hO => hO) ?_
                    refine TA.not 25 rfl (by kernel_rfl) rfl (PQ.then_ PQ.body) (Wt.no rfl rfl rfl rfl) (fun W hO => hO) ?_
                    refine TA.not 26 rfl (by kernel_rfl) rfl (PQ.then_ PQ.body) (Wt.no rfl rfl rfl rfl) (fun W hO => hO) ?_
                    refine TA.take 27 rfl (by kernel_rfl) rfl (PQ.then_ PQ.body) rfl (Val.pickN rfl rfl rfl) (fun W hO => hO) ?_
                    refine TA.take 28 rfl (by kernel_rfl) rfl (PQ.then_ PQ.body) rfl (Val.move rfl) (fun W hO => hO) ?_
                    refine TA.not 29 rfl (by kernel_rfl) rfl (PQ.then_ PQ.body) (Wt.no rfl rfl rfl rfl) (fun W hO => hO) ?_
                    refine TA.not 30 rfl (by kernel_rfl) rfl (PQ.then_ PQ.body) (Wt.no rfl rfl rfl rfl) (fun W hO => hO) ?_
                    refine TA.not 31 rfl (by kernel_rfl) rfl (PQ.then_ PQ.body) (Wt.no rfl rfl rfl rfl) (fun W hO => hO) ?_
                    refine TA.not 32 rfl (by kernel_rfl) rfl (PQ.then_ PQ.body) (Wt.no rfl rfl rfl rfl) (fun W hO => hO) ?_
                    refine TA.not 33 rfl (by kernel_rfl) rfl (PQ.then_ PQ.body) (Wt.no rfl rfl rfl rfl) (fun W hO => hO) ?_
                    refine TA.not 34 rfl (by kernel_rfl) rfl (PQ.then_ PQ.body) (Wt.no rfl rfl rfl rfl) (fun W hO => hO) ?_
                    refine TA.not 35 rfl (by kernel_rfl) rfl (PQ.then_ PQ.body) (Wt.no rfl rfl rfl rfl) (fun W hO => hO) ?_
                    refine TA.take 36 rfl (by kernel_rfl) rfl (PQ.then_ PQ.body) rfl (Val.pickN rfl rfl rfl) (fun W hO => hO) ?_
                    refine TA.take 37 rfl (by kernel_rfl) rfl (PQ.then_ PQ.body) rfl (Val.move rfl) (fun W hO => hO) ?_
                    refine TA.not 38 rfl (by kernel_rfl) rfl (PQ.then_ PQ.body) (Wt.no rfl rfl rfl rfl) (fun W hO => hO) ?_
                    refine TA.not 39 rfl (by kernel_rfl) rfl (PQ.then_ PQ.body) (Wt.no rfl rfl rfl rfl) (fun W hO => hO) ?_
                    refine TA.not 40 rfl (by kernel_rfl) rfl (PQ.then_ PQ.body) (Wt.no rfl rfl rfl rfl) (fun W hO => hO) ?_
                    refine TA.not 41 rfl (by kernel_rfl) rfl (PQ.then_ PQ.body) (Wt.no rfl rfl rfl rfl) (fun W hO => hO) ?_
                    refine TA.not 42 rfl (by kernel_rfl) rfl (PQ.then_ PQ.body) (Wt.no rfl rfl rfl rfl) (fun W hO => hO) ?_
                    refine TA.take 43 rfl (by kernel_rfl) rfl (PQ.then_ PQ.body) rfl (Val.pickN rfl rfl rfl) (fun W hO => hO) ?_
                    refine TA.take 44 rfl (by kernel_rfl) rfl (PQ.then_ PQ.body) rfl (Val.move rfl) (fun W hO => hO) ?_
                    refine TA.not 45 rfl (by kernel_rfl) rfl (PQ.then_ PQ.body) (Wt.no rfl rfl rfl rfl) (fun W hO => hO) ?_
                    refine TA.not 46 rfl (by kernel_rfl) rfl (PQ.then_ PQ.body) (Wt.no rfl rfl rfl rfl) (fun W hO => hO) ?_
                    refine TA.not 47 rfl (by kernel_rfl) rfl (PQ.then_ PQ.body) (Wt.no rfl rfl rfl rfl) (fun W hO => hO) ?_
                    refine TA.not 48 rfl (by kernel_rfl) rfl (PQ.then_ PQ.body) (Wt.no rfl rfl rfl rfl) (fun W hO => hO) ?_
                    refine TA.not 49 rfl (by kernel_rfl) rfl (PQ.then_ PQ.body) (Wt.no rfl rfl rfl rfl) (fun W hO => hO) ?_
                    refine TA.take 50 rfl (by kernel_rfl) rfl (PQ.then_ PQ.body) rfl (Val.pickN rfl rfl rfl) (fun W hO => hO) ?_
                    refine TA.take 51 rfl (by kernel_rfl) rfl (PQ.then_ PQ.body) rfl (Val.move rfl) (fun W hO => hO) ?_
                    refine TA.not 52 rfl (by kernel_rfl) rfl (PQ.then_ PQ.body) (Wt.no rfl rfl rfl rfl) (fun W hO => hO) ?_
                    refine TA.not 53 rfl (by kernel_rfl) rfl (PQ.then_ PQ.body) (Wt.no rfl rfl rfl rfl) (fun W hO => hO) ?_
                    refine TA.not 54 rfl (by kernel_rfl) rfl (PQ.then_ PQ.body) (Wt.no rfl rfl rfl rfl) (fun W hO => hO) ?_
                    refine TA.take 55 rfl (by kernel_rfl) rfl (PQ.then_ PQ.body) rfl (Val.pickN rfl rfl rfl) (fun W hO => hO) ?_
                    refine TA.take 56 rfl (by kernel_rfl) rfl (PQ.then_ PQ.body) rfl (Val.assign rfl) (fun W hO => hO) ?_
                    refine TA.done (by kernel_rfl) ?_
                    refine TQ.then_ ?_
                    refine TC.ret ?_
                    refine TQ.back hb388 ?_
                    obtain rfl := Option.some.inj h
                    exact TQ.fin (.inl rfl) rfl Tryd.results3 (.tmp rfl .nil) rfl (FRel.mk (Ls := []) [] 4 (Gd.le.refl _) rfl rfl rfl ⟨rfl, rfl, rfl⟩)
                · have hk437 : (y395 == y397) = false := (by simpa using hg399)
                  refine TA.not 12 rfl (by kernel_rfl) rfl (PQ.then_ PQ.body) (Wt.no rfl rfl rfl hk437) (fun W hO => hO) ?_
                  refine TA.not 13 rfl (by kernel_rfl) rfl (PQ.then_ PQ.body) (Wt.no rfl rfl rfl hk437) (fun W hO => hO) ?_
                  refine TA.not 14 rfl (by kernel_rfl) rfl (PQ.then_ PQ.body) (Wt.no rfl rfl rfl hk437) (fun W hO => hO) ?_
                  refine TA.not 15 rfl (by kernel_rfl) rfl (PQ.then_ PQ.body) (Wt.no rfl rfl rfl hk437) (fun W hO => hO) ?_
                  refine TA.not 16 rfl (by kernel_rfl) rfl (PQ.then_ PQ.body) (Wt.no rfl rfl rfl hk437) (fun W hO => hO) ?_
                  refine TA.take 17 rfl (by kernel_rfl) rfl (PQ.then_ PQ.body) rfl (Val.pickN rfl hk437 rfl) (fun W hO => hO) ?_
                  refine TA.take 18 rfl (by kernel_rfl) rfl (PQ.then_ PQ.body) rfl (Val.move rfl) (fun W hO => hO) ?_
                  refine TA.not 19 rfl (by kernel_rfl) rfl (PQ.then_ PQ.body) (Wt.no rfl rfl rfl rfl) (fun W hO => hO) ?_
                  refine TA.not 20 rfl (by kernel_rfl) rfl (PQ.then_ PQ.body) (Wt.no rfl rfl rfl rfl) (fun W hO => hO) ?_
                  refine TA.not 21 rfl (by kernel_rfl) rfl (PQ.then_ PQ.body) (Wt.no rfl rfl rfl rfl) (fun W hO => hO) ?_
                  refine TA.take 22 rfl (by kernel_rfl) rfl (PQ.then_ PQ.body) rfl (Val.pickN rfl rfl rfl) (fun W hO => hO) ?_
                  refine TA.take 23 rfl (by kernel_rfl) rfl (PQ.then_ PQ.body) rfl (Val.move rfl) (fun W hO => hO) ?_
                  refine TA.not 24 rfl (by kernel_rfl) rfl (PQ.then_ PQ.body) (Wt.no rfl rfl rfl rfl) (fun W hO => hO) ?_
                  refine TA.not 25 rfl (by kernel_rfl) rfl (PQ.then_ PQ.body) (Wt.no rfl rfl rfl rfl) (fun W hO => hO) ?_
                  refine TA.not 26 rfl (by kernel_rfl) rfl (PQ.then_ PQ.body) (Wt.no rfl rfl rfl rfl) (fun W hO => hO) ?_
                  refine TA.take 27 rfl (by kernel_rfl) rfl (PQ.then_ PQ.body) rfl (Val.pickN rfl rfl rfl) (fun W hO => hO) ?_
                  refine TA.take 28 rfl (by kernel_rfl) rfl (PQ.then_ PQ.body) rfl (Val.move rfl) (fun W hO => hO) ?_
                  refine TA.not 29 rfl (by kernel_rfl) rfl (PQ.then_ PQ.body) (Wt.no rfl rfl rfl rfl) (fun W hO => hO) ?_
                  refine TA.not 30 rfl (by kernel_rfl) rfl (PQ.then_ PQ.body) (Wt.no rfl rfl rfl rfl) (fun W hO => hO) ?_
                  refine TA.not 31 rfl (by kernel_rfl) rfl (PQ.then_ PQ.body) (Wt.no rfl rfl rfl rfl) (fun W hO => hO) ?_
                  refine TA.not 32 rfl (by kernel_rfl) rfl (PQ.then_ PQ.body) (Wt.no rfl rfl rfl rfl) (fun W hO => hO) ?_
                  refine TA.not 33 rfl (by kernel_rfl) rfl (PQ.then_ PQ.body) (Wt.no rfl rfl rfl rfl) (fun W hO => hO) ?_
                  refine TA.not 34 rfl (by kernel_rfl) rfl (PQ.then_ PQ.body) (Wt.no rfl rfl rfl rfl) (fun W hO => hO) ?_
                  refine TA.not 35 rfl (by kernel_rfl) rfl (PQ.then_ PQ.body) (Wt.no rfl rfl rfl rfl) (fun W hO => hO) ?_
                  refine TA.take 36 rfl (by kernel_rfl) rfl (PQ.then_ PQ.body) rfl (Val.pickN rfl rfl rfl) (fun W hO => hO) ?_
                  refine TA.take 37 rfl (by kernel_rfl) rfl (PQ.then_ PQ.body) rfl (Val.move rfl) (fun W hO => hO) ?_
                  refine TA.not 38 rfl (by kernel_rfl) rfl (PQ.then_ PQ.body) (Wt.no rfl rfl rfl rfl) (fun W hO => hO) ?_
                  refine TA.not 39 rfl (by kernel_rfl) rfl (PQ.then_ PQ.body) (Wt.no rfl rfl rfl rfl) (fun W hO => hO) ?_
                  refine TA.not 40 rfl (by kernel_rfl) rfl (PQ.then_ PQ.body) (Wt.no rfl rfl rfl rfl) (fun W hO => hO) ?_
                  refine TA.not 41 rfl (by kernel_rfl) rfl (PQ.then_ PQ.body) (Wt.no rfl rfl rfl rfl) (fun W hO => hO) ?_
                  refine TA.not 42 rfl (by kernel_rfl) rfl (PQ.then_ PQ.body) (Wt.no rfl rfl rfl rfl) (fun W hO => hO) ?_
                  refine TA.take 43 rfl (by kernel_rfl) rfl (PQ.then_ PQ.body) rfl (Val.pickN rfl rfl rfl) (fun W hO => hO) ?_
                  refine TA.take 44 rfl (by kernel_rfl) rfl (PQ.then_ PQ.body) rfl (Val.move rfl) (fun W hO => hO) ?_
                  refine TA.not 45 rfl (by kernel_rfl) rfl (PQ.then_ PQ.body) (Wt.no rfl rfl rfl rfl) (fun W hO => hO) ?_
                  refine TA.not 46 rfl (by kernel_rfl) rfl (PQ.then_ PQ.body) (Wt.no rfl rfl rfl rfl) (fun W hO => hO) ?_
                  refine TA.not 47 rfl (by kernel_rfl) rfl (PQ.then_ PQ.body) (Wt.no rfl rfl rfl rfl) (fun W hO => hO) ?_
                  refine TA.not 48 rfl (by kernel_rfl) rfl (PQ.then_ PQ.body) (Wt.no rfl rfl rfl rfl) (fun W hO => hO) ?_
                  refine TA.not 49 rfl (by kernel_rfl) rfl (PQ.then_ PQ.body) (Wt.no rfl rfl rfl rfl) (fun W hO => hO) ?_
                  refine TA.take 50 rfl (by kernel_rfl) rfl (PQ.then_ PQ.body) rfl (Val.pickN rfl rfl rfl) (fun W hO => hO) ?_
                  refine TA.take 51 rfl (by kernel_rfl) rfl (PQ.then_ PQ.body) rfl (Val.move rfl) (fun W hO => hO) ?_
                  refine TA.not 52 rfl (by kernel_rfl) rfl (PQ.then_ PQ.body) (Wt.no rfl rfl rfl rfl) (fun W hO => hO) ?_
                  refine TA.not 53 rfl (by kernel_rfl) rfl (PQ.then_ PQ.body) (Wt.no rfl rfl rfl rfl) (fun W hO => hO) ?_
                  refine TA.not 54 rfl (by kernel_rfl) rfl (PQ.then_ PQ.body) (Wt.no rfl rfl rfl rfl) (fun W hO => hO) ?_
                  refine TA.take 55 rfl (by kernel_rfl) rfl (PQ.then_ PQ.body) rfl (Val.pickN rfl rfl rfl) (fun W hO => hO) ?_
                  refine TA.take 56 rfl (by kernel_rfl) rfl (PQ.then_ PQ.body) rfl (Val.assign rfl) (fun W hO => hO) ?_
                  refine TA.done (by kernel_rfl) ?_
                  refine TQ.then_ ?_
                  refine TC.ret ?_
                  refine TQ.back hb388 ?_
                  obtain rfl := Option.some.inj h
                  exact TQ.fin (.inl rfl) rfl Tryd.results3 (.tmp rfl .nil) rfl (FRel.mk (Ls := []) [] 4 (Gd.le.refl _) rfl rfl rfl ⟨rfl, rfl, rfl⟩)
              · have hk438 : x118 = false := (by simpa using hg393)
                refine TA.not 5 rfl (by kernel_rfl) rfl (PQ.then_ PQ.body) (Wt.no rfl rfl rfl hk438) (fun W hO => hO) ?_
                refine TA.not 6 rfl (by kernel_rfl) rfl (PQ.then_ PQ.body) (Wt.no rfl rfl rfl hk438) (fun W hO => hO) ?_
                refine TA.not 7 rfl (by kernel_rfl) rfl (PQ.then_ PQ.body) (Wt.no rfl rfl rfl hk438) (fun W hO => hO) ?_
                refine TA.not 8 rfl (by kernel_rfl) rfl (PQ.then_ PQ.body) (Wt.no rfl rfl rfl hk438) (fun W hO => hO) ?_
                refine TA.not 9 rfl (by kernel_rfl) rfl (PQ.then_ PQ.body) (Wt.no rfl rfl rfl hk438) (fun W hO => hO) ?_
                refine TA.take 10 rfl (by kernel_rfl) rfl (PQ.then_ PQ.body) rfl (Val.pickN rfl hk438 rfl) (fun W hO => hO) ?_
                refine TA.take 11 rfl (by kernel_rfl) rfl (PQ.then_ PQ.body) rfl (Val.move rfl) (fun W hO => hO) ?_
                refine TA.not 12 rfl (by kernel_rfl) rfl (PQ.then_ PQ.body) (Wt.no rfl rfl rfl rfl) (fun W hO => hO) ?_
                refine TA.not 13 rfl (by kernel_rfl) rfl (PQ.then_ PQ.body) (Wt.no rfl rfl rfl rfl) (fun W hO => hO) ?_
                refine TA.not 14 rfl (by kernel_rfl) rfl (PQ.then_ PQ.body) (Wt.no rfl rfl rfl rfl) (fun W hO => hO) ?_
                refine TA.not 15 rfl (by kernel_rfl) rfl (PQ.then_ PQ.body) (Wt.no rfl rfl rfl rfl) (fun W hO => hO) ?_
                refine TA.not 16 rfl (by kernel_rfl) rfl (PQ.then_ PQ.body) (Wt.no rfl rfl rfl rfl) (fun W hO => hO) ?_
                refine TA.take 17 rfl (by kernel_rfl) rfl (PQ.then_ PQ.body) rfl (Val.pickN rfl rfl rfl) (fun W hO => hO) ?_
                refine TA.take 18 rfl (by kernel_rfl) rfl (PQ.then_ PQ.body) rfl (Val.move rfl) (fun W hO => hO) ?_
                refine TA.not 19 rfl (by kernel_rfl) rfl (PQ.then_ PQ.body) (Wt.no rfl rfl rfl rfl) (fun W hO => hO) ?_
                refine TA.not 20 rfl (by kernel_rfl) rfl (PQ.then_ PQ.body) (Wt.no rfl rfl rfl rfl) (fun W hO => hO) ?_
                refine TA.not 21 rfl (by kernel_rfl) rfl (PQ.then_ PQ.body) (Wt.no rfl rfl rfl rfl) (fun W hO => hO) ?_
                refine TA.take 22 rfl (by kernel_rfl) rfl (PQ.then_ PQ.body) rfl (Val.pickN rfl rfl rfl) (fun W hO => hO) ?_
                refine TA.take 23 rfl (by kernel_rfl) rfl (PQ.then_ PQ.body) rfl (Val.move rfl) (fun W hO => hO) ?_
                refine TA.not 24 rfl (by kernel_rfl) rfl (PQ.then_ PQ.body) (Wt.no rfl rfl rfl rfl) (fun W hO => hO) ?_
                refine TA.not 25 rfl (by kernel_rfl) rfl (PQ.then_ PQ.body) (Wt.no rfl rfl rfl rfl) (fun W hO => hO) ?_
                refine TA.not 26 rfl (by kernel_rfl) rfl (PQ.then_ PQ.body) (Wt.no rfl rfl rfl rfl) (fun W hO => hO) ?_
                refine TA.take 27 rfl (by kernel_rfl) rfl (PQ.then_ PQ.body) rfl (Val.pickN rfl rfl rfl) (fun W hO => hO) ?_
                refine TA.take 28 rfl (by kernel_rfl) rfl (PQ.then_ PQ.body) rfl (Val.move rfl) (fun W hO => hO) ?_
                refine TA.not 29 rfl (by kernel_rfl) rfl (PQ.then_ PQ.body) (Wt.no rfl rfl rfl rfl) (fun W hO => hO) ?_
                refine TA.not 30 rfl (by kernel_rfl) rfl (PQ.then_ PQ.body) (Wt.no rfl rfl rfl rfl) (fun W hO => hO) ?_
                refine TA.not 31 rfl (by kernel_rfl) rfl (PQ.then_ PQ.body) (Wt.no rfl rfl rfl rfl) (fun W hO => hO) ?_
                refine TA.not 32 rfl (by kernel_rfl) rfl (PQ.then_ PQ.body) (Wt.no rfl rfl rfl rfl) (fun W hO => hO) ?_
                refine TA.not 33 rfl (by kernel_rfl) rfl (PQ.then_ PQ.body) (Wt.no rfl rfl rfl rfl) (fun W hO => hO) ?_
                refine TA.not 34 rfl (by kernel_rfl) rfl (PQ.then_ PQ.body) (Wt.no rfl rfl rfl rfl) (fun W hO => hO) ?_
                refine TA.not 35 rfl (by kernel_rfl) rfl (PQ.then_ PQ.body) (Wt.no rfl rfl rfl rfl) (fun W hO => hO) ?_
                refine TA.take 36 rfl (by kernel_rfl) rfl (PQ.then_ PQ.body) rfl (Val.pickN rfl rfl rfl) (fun W hO => hO) ?_
                refine TA.take 37 rfl (by kernel_rfl) rfl (PQ.then_ PQ.body) rfl (Val.move rfl) (fun W hO => hO) ?_
                refine TA.not 38 rfl (by kernel_rfl) rfl (PQ.then_ PQ.body) (Wt.no rfl rfl rfl rfl) (fun W hO => hO) ?_
                refine TA.not 39 rfl (by kernel_rfl) rfl (PQ.then_ PQ.body) (Wt.no rfl rfl rfl rfl) (fun W hO => hO) ?_
                refine TA.not 40 rfl (by kernel_rfl) rfl (PQ.then_ PQ.body) (Wt.no rfl rfl rfl rfl) (fun W hO => hO) ?_
                refine TA.not 41 rfl (by kernel_rfl) rfl (PQ.then_ PQ.body) (Wt.no rfl rfl rfl rfl) (fun W hO => hO) ?_
                refine TA.not 42 rfl (by kernel_rfl) rfl (PQ.then_ PQ.body) (Wt.no rfl rfl rfl rfl) (fun W hO => hO) ?_
                refine TA.take 43 rfl (by kernel_rfl) rfl (PQ.then_ PQ.body) rfl (Val.pickN rfl rfl rfl) (fun W hO => hO) ?_
                refine TA.take 44 rfl (by kernel_rfl) rfl (PQ.then_ PQ.body) rfl (Val.move rfl) (fun W hO => hO) ?_
                refine TA.not 45 rfl (by kernel_rfl) rfl (PQ.then_ PQ.body) (Wt.no rfl rfl rfl rfl) (fun W hO => hO) ?_
                refine TA.not 46 rfl (by kernel_rfl) rfl (PQ.then_ PQ.body) (Wt.no rfl rfl rfl rfl) (fun W hO => hO) ?_
                refine TA.not 47 rfl (by kernel_rfl) rfl (PQ.then_ PQ.body) (Wt.no rfl rfl rfl rfl) (fun W hO => hO) ?_
                refine TA.not 48 rfl (by kernel_rfl) rfl (PQ.then_ PQ.body) (Wt.no rfl rfl rfl rfl) (fun W hO => hO) ?_
                refine TA.not 49 rfl (by kernel_rfl) rfl (PQ.then_ PQ.body) (Wt.no rfl rfl rfl rfl) (fun W hO => hO) ?_
                refine TA.take 50 rfl (by kernel_rfl) rfl (PQ.then_ PQ.body) rfl (Val.pickN rfl rfl rfl) (fun W hO => hO) ?_
                refine TA.take 51 rfl (by kernel_rfl) rfl (PQ.then_ PQ.body) rfl (Val.move rfl) (fun W hO => hO) ?_
                refine TA.not 52 rfl (by kernel_rfl) rfl (PQ.then_ PQ.body) (Wt.no rfl rfl rfl rfl) (fun W hO => hO) ?_
                refine TA.not 53 rfl (by kernel_rfl) rfl (PQ.then_ PQ.body) (Wt.no rfl rfl rfl rfl) (fun W hO => hO) ?_
                refine TA.not 54 rfl (by kernel_rfl) rfl (PQ.then_ PQ.body) (Wt.no rfl rfl rfl rfl) (fun W hO => hO) ?_
                refine TA.take 55 rfl (by kernel_rfl) rfl (PQ.then_ PQ.body) rfl (Val.pickN rfl rfl rfl) (fun W hO => hO) ?_
                refine TA.take 56 rfl (by kernel_rfl) rfl (PQ.then_ PQ.body) rfl (Val.assign rfl) (fun W hO => hO) ?_
                refine TA.done (by kernel_rfl) ?_
                refine TQ.then_ ?_
                refine TC.ret ?_
                refine TQ.back hb388 ?_
                obtain rfl := Option.some.inj h
                exact TQ.fin (.inl rfl) rfl Tryd.results3 (.tmp rfl .nil) rfl (FRel.mk (Ls := []) [] 4 (Gd.le.refl _) rfl rfl rfl ⟨rfl, rfl, rfl⟩)
            · have hk439 : y11 = false := (by simpa using hg391)
              refine TA.not 2 rfl (by kernel_rfl) rfl (PQ.then_ PQ.body) (Wt.no rfl rfl rfl hk439) (fun W hO => hO) ?_
              refine TA.take 3 rfl (by kernel_rfl) rfl (PQ.then_ PQ.body) rfl (Val.pickN rfl hk439 rfl) (fun W hO => hO) ?_
              refine TA.take 4 rfl (by kernel_rfl) rfl (PQ.then_ PQ.body) rfl (Val.move rfl) (fun W hO => hO) ?_
              refine TA.not 5 rfl (by kernel_rfl) rfl (PQ.then_ PQ.body) (Wt.no rfl rfl rfl rfl) (fun W hO => hO) ?_
              refine TA.not 6 rfl (by kernel_rfl) rfl (PQ.then_ PQ.body) (Wt.no rfl rfl rfl rfl) (fun W hO => hO) ?_
              refine TA.not 7 rfl (by kernel_rfl) rfl (PQ.then_ PQ.body) (Wt.no rfl rfl rfl rfl) (fun W hO => hO) ?_
              refine TA.not 8 rfl (by kernel_rfl) rfl (PQ.then_ PQ.body) (Wt.no rfl rfl rfl rfl) (fun W hO => hO) ?_
              refine TA.not 9 rfl (by kernel_rfl) rfl (PQ.then_ PQ.body) (Wt.no rfl rfl rfl rfl) (fun W hO => hO) ?_
              refine TA.take 10 rfl (by kernel_rfl) rfl (PQ.then_ PQ.body) rfl (Val.pickN rfl rfl rfl) (fun W hO => hO) ?_
              refine TA.take 11 rfl (by kernel_rfl) rfl (PQ.then_ PQ.body) rfl (Val.move rfl) (fun W hO => hO) ?_
              refine TA.not 12 rfl (by kernel_rfl) rfl (PQ.then_ PQ.body) (Wt.no rfl rfl rfl rfl) (fun W hO => hO) ?_
              refine TA.not 13 rfl (by kernel_rfl) rfl (PQ.then_ PQ.body) (Wt.no rfl rfl rfl rfl) (fun W hO => hO) ?_
              refine TA.not 14 rfl (by kernel_rfl) rfl (PQ.then_ PQ.body) (Wt.no rfl rfl rfl rfl) (fun W hO => hO) ?_
              refine TA.not 15 rfl (by kernel_rfl) rfl (PQ.then_ PQ.body) (Wt.no rfl rfl rfl rfl) (fun W hO => hO) ?_
              refine TA.not 16 rfl (by kernel_rfl) rfl (PQ.then_ PQ.body) (Wt.no rfl rfl rfl rfl) (fun W hO => hO) ?_
              refine TA.take 17 rfl (by kernel_rfl) rfl (PQ.then_ PQ.body) rfl (Val.pickN rfl rfl rfl) (fun W hO => hO) ?_
              refine TA.take 18 rfl (by kernel_rfl) rfl (PQ.then_ PQ.body) rfl (Val.move rfl) (fun W hO => hO) ?_
              refine TA.not 19 rfl (by kernel_rfl) rfl (PQ.then_ PQ.body) (Wt.no rfl rfl rfl rfl) (fun W hO => hO) ?_
              refine TA.not 20 rfl (by kernel_rfl) rfl (PQ.then_ PQ.body) (Wt.no rfl rfl rfl rfl) (fun W hO => hO) ?_
              refine TA.not 21 rfl (by kernel_rfl) rfl (PQ.then_ PQ.body) (Wt.no rfl rfl rfl rfl) (fun W hO => hO) ?_
              refine TA.take 22 rfl (by kernel_rfl) rfl (PQ.then_ PQ.body) rfl (Val.pickN rfl rfl rfl) (fun W hO => hO) ?_
              refine TA.take 23 rfl (by kernel_rfl) rfl (PQ.then_ PQ.body) rfl (Val.move rfl) (fun W hO => hO) ?_
              refine TA.not 24 rfl (by kernel_rfl) rfl (PQ.then_ PQ.body) (Wt.no rfl rfl rfl rfl) (fun W hO => hO) ?_
              refine TA.not 25 rfl (by kernel_rfl) rfl (PQ.then_ PQ.body) (Wt.no rfl rfl rfl rfl) (fun W hO => hO) ?_
              refine TA.not 26 rfl (by kernel_rfl) rfl (PQ.then_ PQ.body) (Wt.no rfl rfl rfl rfl) (fun W hO => hO) ?_
              refine TA.take 27 rfl (by kernel_rfl) rfl (PQ.then_ PQ.body) rfl (Val.pickN rfl rfl rfl) (fun W hO => hO) ?_
              refine TA.take 28 rfl (by kernel_rfl) rfl (PQ.then_ PQ.body) rfl (Val.move rfl) (fun W hO => hO) ?_
              refine TA.not 29 rfl (by kernel_rfl) rfl (PQ.then_ PQ.body) (Wt.no rfl rfl rfl rfl) (fun W hO => hO) ?_
              refine TA.not 30 rfl (by kernel_rfl) rfl (PQ.then_ PQ.body) (Wt.no rfl rfl rfl rfl) (fun W hO => hO) ?_
              refine TA.not 31 rfl (by kernel_rfl) rfl (PQ.then_ PQ.body) (Wt.no rfl rfl rfl rfl) (fun W hO => hO) ?_
              refine TA.not 32 rfl (by kernel_rfl) rfl (PQ.then_ PQ.body) (Wt.no rfl rfl rfl rfl) (fun W hO => hO) ?_
              refine TA.not 33 rfl (by kernel_rfl) rfl (PQ.then_ PQ.body) (Wt.no rfl rfl rfl rfl) (fun W hO => hO) ?_
              refine TA.not 34 rfl (by kernel_rfl) rfl (PQ.then_ PQ.body) (Wt.no rfl rfl rfl rfl) (fun W hO => hO) ?_
              refine TA.not 35 rfl (by kernel_rfl) rfl (PQ.then_ PQ.body) (Wt.no rfl rfl rfl rfl) (fun W hO => hO) ?_
              refine TA.take 36 rfl (by kernel_rfl) rfl (PQ.then_ PQ.body) rfl (Val.pickN rfl rfl rfl) (fun W hO => hO) ?_
              refine TA.take 37 rfl (by kernel_rfl) rfl (PQ.then_ PQ.body) rfl (Val.move rfl) (fun W hO => hO) ?_
              refine TA.not 38 rfl (by kernel_rfl) rfl (PQ.then_ PQ.body) (Wt.no rfl rfl rfl rfl) (fun W hO => hO) ?_
              refine TA.not 39 rfl (by kernel_rfl) rfl (PQ.then_ PQ.body) (Wt.no rfl rfl rfl rfl) (fun W hO => hO) ?_
              refine TA.not 40 rfl (by kernel_rfl) rfl (PQ.then_ PQ.body) (Wt.no rfl rfl rfl rfl) (fun W hO => hO) ?_
              refine TA.not 41 rfl (by kernel_rfl) rfl (PQ.then_ PQ.body) (Wt.no rfl rfl rfl rfl) (fun W hO => hO) ?_
              refine TA.not 42 rfl (by kernel_rfl) rfl (PQ.then_ PQ.body) (Wt.no rfl rfl rfl rfl) (fun W hO => hO) ?_
              refine TA.take 43 rfl (by kernel_rfl) rfl (PQ.then_ PQ.body) rfl (Val.pickN rfl rfl rfl) (fun W hO => hO) ?_
              refine TA.take 44 rfl (by kernel_rfl) rfl (PQ.then_ PQ.body) rfl (Val.move rfl) (fun W hO => hO) ?_
              refine TA.not 45 rfl (by kernel_rfl) rfl (PQ.then_ PQ.body) (Wt.no rfl rfl rfl rfl) (fun W hO => hO) ?_
              refine TA.not 46 rfl (by kernel_rfl) rfl (PQ.then_ PQ.body) (Wt.no rfl rfl rfl rfl) (fun W hO => hO) ?_
              refine TA.not 47 rfl (by kernel_rfl) rfl (PQ.then_ PQ.body) (Wt.no rfl rfl rfl rfl) (fun W hO => hO) ?_
              refine TA.not 48 rfl (by kernel_rfl) rfl (PQ.then_ PQ.body) (Wt.no rfl rfl rfl rfl) (fun W hO => hO) ?_
              refine TA.not 49 rfl (by kernel_rfl) rfl (PQ.then_ PQ.body) (Wt.no rfl rfl rfl rfl) (fun W hO => hO) ?_
              refine TA.take 50 rfl (by kernel_rfl) rfl (PQ.then_ PQ.body) rfl (Val.pickN rfl rfl rfl) (fun W hO => hO) ?_
              refine TA.take 51 rfl (by kernel_rfl) rfl (PQ.then_ PQ.body) rfl (Val.move rfl) (fun W hO => hO) ?_
              refine TA.not 52 rfl (by kernel_rfl) rfl (PQ.then_ PQ.body) (Wt.no rfl rfl rfl rfl) (fun W hO => hO) ?_
              refine TA.not 53 rfl (by kernel_rfl) rfl (PQ.then_ PQ.body) (Wt.no rfl rfl rfl rfl) (fun W hO => hO) ?_
              refine TA.not 54 rfl (by kernel_rfl) rfl (PQ.then_ PQ.body) (Wt.no rfl rfl rfl rfl) (fun W hO => hO) ?_
              refine TA.take 55 rfl (by kernel_rfl) rfl (PQ.then_ PQ.body) rfl (Val.pickN rfl rfl rfl) (fun W hO => hO) ?_
              refine TA.take 56 rfl (by kernel_rfl) rfl (PQ.then_ PQ.body) rfl (Val.assign rfl) (fun W hO => hO) ?_
              refine TA.done (by kernel_rfl) ?_
              refine TQ.then_ ?_
              refine TC.ret ?_
              refine TQ.back hb388 ?_
              obtain rfl := Option.some.inj h
              exact TQ.fin (.inl rfl) rfl Tryd.results3 (.tmp rfl .nil) rfl (FRel.mk (Ls := []) [] 4 (Gd.le.refl _) rfl rfl rfl ⟨rfl, rfl, rfl⟩)
          · refine TC.cond_b rfl h (fun hc440 h => ?_) (fun hc440 h => ?_)
            · refine TC.region ?_
              refine TL.cons (TO.val rfl rfl rfl (Val.fieldAddrB Tryd.underlying24 rfl fsz22 rfl rfl rfl) ?_)
              refine TL.cons (TO.val rfl rfl rfl (Val.loadB 2 agg22 rfl rfl rfl) ?_)
              obtain ⟨y441, hy442, h⟩ := bind_no h
              refine TK.opened 5 rfl hy442 (fun b443 hA444 hi445 hj446 => ?_)
              refine TL.cons (TO.val rfl rfl rfl (Val.indexAddrW Tryd.underlying22 fsz24 rfl hA444 rfl hi445 hj446) ?_)
              refine TL.cons (TO.val rfl rfl rfl (Val.fieldAddrB Tryd.underlying24 rfl fsz3 rfl rfl rfl) ?_)
              refine TK.new (ch := Emp) (fun _ _ => trivial) ?_
              refine TK.sel (Ls := [Row k24 24 (.slice A38 y36.f2.length c39) y36.f2, Emp, Blk b10 [.int .i64 a1.f0, .int .i64 a1.f1, .slice A5 a1.f2.length c6] 24, Blk b29 [.int .i64 y24.f0, .int .i64 y24.f1, .slice A26 y24.f2.length c27] 24, Blk b41 [.int .i64 y36.f0, .int .i64 y36.f1, .slice A38 y36.f2.length c39] 24, Blk b9 [.int .i64 a0.f0, .int .i64 a0.f1, .slice A1 a0.f2.length c2] 24, Row k24 24 (.slice A26 y24.f2.length c27) y24.f2]) [6, 0, 1, 2, 3, 4, 5] 7 rfl rfl rfl ?_
              refine TL.cons (TL.storeE k24 (xs := y36.f2) (xv := (⟨(-7), y441.f1, y441.f2⟩ : S24)) (ds := [.int .i64 (-7)]) rfl fsz3 hA444 hy442 rfl rfl rfl rfl (Nat.le_of_ble_eq_true rfl) (fun B W F1 F2 cs hd h1 h2 => by obtain ⟨v2_, rfl, g2_⟩ := k24_openM h1; exact k24_mkM W B _ _ (Kd.R_mono g2_ (fun _ => .inl))) ?_)
              rw [show (y36.f2.length : Nat) = (y36.f2.set (0 : Int).toNat (⟨(-7), y441.f1, y441.f2⟩ : S24)).length from by simp only [List.length_set]]
              refine TL.nil ?_
              exact fun a W hF hO => ⟨h, hF.sub ⟨rfl, rfl, rfl, rfl, rfl, rfl, trivial⟩, hO.selT (Ls := [Blk b10 [.int .i64 a1.f0, .int .i64 a1.f1, .slice A5 a1.f2.length c6] 24, Blk b29 [.int .i64 y24.f0, .int .i64 y24.f1, .slice A26 y24.f2.length c27] 24, Blk b9 [.int .i64 a0.f0, .int .i64 a0.f1, .slice A1 a0.f2.length c2] 24, Row k24 24 (.slice A26 y24.f2.length c27) y24.f2]) [1, 2, 4, 5] 6 rfl rfl rfl⟩
            · refine TC.skip ?_
              exact fun a W hF hO => ⟨h, hF.sub ⟨rfl, rfl, rfl, rfl, rfl, rfl, trivial⟩, hO.selT (Ls := [Blk b10 [.int .i64 a1.f0, .int .i64 a1.f1, .slice A5 a1.f2.length c6] 24, Blk b29 [.int .i64 y24.f0, .int .i64 y24.f1, .slice A26 y24.f2.length c27] 24, Blk b9 [.int .i64 a0.f0, .int .i64 a0.f1, .slice A1 a0.f2.length c2] 24, Row k24 24 (.slice A26 y24.f2.length c27) y24.f2]) [0, 1, 3, 4] 6 rfl rfl rfl⟩
        · refine TC.block ?_
          intro a W hF hO
          have hS : ∃ (x172 : Int) (l173 : (List S24)) (A174 : Option Addr) (c175 : Nat), swagelaw11_TypesTell.l0 (y30.f2.length + 1) x172 l173 = some o192 ∧ l173.length = y30.f2.length ∧ Fr 141 a [(2, .int .i64 a2), (3, .pointer (some ⟨b9, 0, none⟩)), (4, .pointer (some ⟨b10, 0, none⟩)), (7, .bool y11), (9, .pointer (some ⟨b29, 0, none⟩)), (10, .pointer (some ⟨b35, 0, none⟩)), (11, .pointer (some ⟨b41, 0, none⟩)), (12, .bool x118), (13, .int .i64 x172)] ∧ Own G (Blk b10 [.int .i64 a1.f0, .int .i64 a1.f1, .slice A5 a1.f2.length c6] 24 :: Blk b29 [.int .i64 y24.f0, .int .i64 y24.f1, .slice A26 y24.f2.length c27] 24 :: Blk b35 [.int .i64 y30.f0, .int .i64 y30.f1, .slice A174 l173.length c175] 24 :: Blk b41 [.int .i64 y36.f0, .int .i64 y36.f1, .slice A38 y36.f2.length c39] 24 :: Blk b9 [.int .i64 a0.f0, .int .i64 a0.f1, .slice A1 a0.f2.length c2] 24 :: Row k24 24 (.slice A26 y24.f2.length c27) y24.f2 :: Row k24 24 (.slice A174 l173.length c175) l173 :: Row k24 24 (.slice A38 y36.f2.length c39) y36.f2 :: L) W := by
            exact ⟨0, y30.f2, A32, c33, ho192, (by first | rfl | assumption | (simp only [List.length_set]; first | rfl | assumption)), hF.sub ⟨rfl, rfl, rfl, rfl, rfl, rfl, rfl, rfl, rfl, trivial⟩, hO.selT (Ls := [Blk b10 [.int .i64 a1.f0, .int .i64 a1.f1, .slice A5 a1.f2.length c6] 24, Blk b29 [.int .i64 y24.f0, .int .i64 y24.f1, .slice A26 y24.f2.length c27] 24, Blk b35 [.int .i64 y30.f0, .int .i64 y30.f1, .slice A32 y30.f2.length c33] 24, Blk b41 [.int .i64 y36.f0, .int .i64 y36.f1, .slice A38 y36.f2.length c39] 24, Blk b9 [.int .i64 a0.f0, .int .i64 a0.f1, .slice A1 a0.f2.length c2] 24, Row k24 24 (.slice A26 y24.f2.length c27) y24.f2, Row k24 24 (.slice A32 y30.f2.length c33) y30.f2, Row k24 24 (.slice A38 y36.f2.length c39) y36.f2]) [0, 1, 2, 3, 4, 5, 6, 7] 8 rfl rfl rfl⟩
          clear hF hO ho192 ko192
          refine TC.loop (fun n193 a W => ∃ (x172 : Int) (l173 : (List S24)) (A174 : Option Addr) (c175 : Nat), swagelaw11_TypesTell.l0 n193 x172 l173 = some o192 ∧ l173.length = y30.f2.length ∧ Fr 141 a [(2, .int .i64 a2), (3, .pointer (some ⟨b9, 0, none⟩)), (4, .pointer (some ⟨b10, 0, none⟩)), (7, .bool y11), (9, .pointer (some ⟨b29, 0, none⟩)), (10, .pointer (some ⟨b35, 0, none⟩)), (11, .pointer (some ⟨b41, 0, none⟩)), (12, .bool x118), (13, .int .i64 x172)] ∧ Own G (Blk b10 [.int .i64 a1.f0, .int .i64 a1.f1, .slice A5 a1.f2.length c6] 24 :: Blk b29 [.int .i64 y24.f0, .int .i64 y24.f1, .slice A26 y24.f2.length c27] 24 :: Blk b35 [.int .i64 y30.f0, .int .i64 y30.f1, .slice A174 l173.length c175] 24 :: Blk b41 [.int .i64 y36.f0, .int .i64 y36.f1, .slice A38 y36.f2.length c39] 24 :: Blk b9 [.int .i64 a0.f0, .int .i64 a0.f1, .slice A1 a0.f2.length c2] 24 :: Row k24 24 (.slice A26 y24.f2.length c27) y24.f2 :: Row k24 24 (.slice A174 l173.length c175) l173 :: Row k24 24 (.slice A38 y36.f2.length c39) y36.f2 :: L) W) ?_ ?_ hS
          · rintro a W ⟨x172, l173, A174, c175, h, hl177, hF, hO⟩
            exact none_no h
          · clear hS
            rintro n193 a W ⟨x172, l173, A174, c175, h, hl177, hF, hO⟩
            rw [swagelaw11_TypesTell.l0] at h
            refine TC.use ?_ hF hO
            clear hF hO
            refine TC.seq ?_
            refine TC.seq ?_
            refine TC.region ?_
            refine TL.cons (TO.val rfl rfl rfl (Val.move rfl) ?_)
            refine TL.cons (TO.val rfl rfl rfl (Val.fieldAddrB Tryd.underlying24 rfl fsz22 rfl rfl rfl) ?_)
            refine TL.cons (TO.val rfl rfl rfl (Val.loadB 2 agg22 rfl rfl rfl) ?_)
            refine TL.cons (TO.val rfl rfl rfl (Val.len Tryd.underlying22 rfl) ?_)
            refine TL.cons (TO.val rfl rfl rfl (Val.cmp rfl rfl run_lss) ?_)
            refine TL.nil ?_
            refine TQ.then_ ?_
            refine TC.cond_p rfl h (fun hc448 h => ?_) (fun hc448 h => ?_)
            · refine TC.skip ?_
              refine TQ.then_ ?_
              refine TC.seq ?_
              refine TC.block ?_
              refine TC.region ?_
              refine TL.cons (TO.val rfl rfl rfl (Val.fieldAddrB Tryd.underlying24 rfl fsz22 rfl rfl rfl) ?_)
              refine TL.cons (TO.val rfl rfl rfl (Val.loadB 2 agg22 rfl rfl rfl) ?_)
              refine TL.cons (TO.val rfl rfl rfl (Val.move rfl) ?_)
              obtain ⟨y455, hy456, h⟩ := bind_no h
              refine TK.opened 6 rfl hy456 (fun b457 hA458 hi459 hj460 => ?_)
              refine TL.cons (TO.val rfl rfl rfl (Val.indexAddrW Tryd.underlying22 fsz24 rfl hA458 rfl hi459 hj460) ?_)
              refine TL.cons (TO.val rfl rfl rfl (Val.fieldAddrB Tryd.underlying24 rfl fsz3 rfl rfl rfl) ?_)
              refine TK.new (ch := Emp) (fun _ _ => trivial) ?_
              refine TK.sel (Ls := [Row k24 24 (.slice A174 l173.length c175) l173, Emp, Blk b10 [.int .i64 a1.f0, .int .i64 a1.f1, .slice A5 a1.f2.length c6] 24, Blk b29 [.int .i64 y24.f0, .int .i64 y24.f1, .slice A26 y24.f2.length c27] 24, Blk b35 [.int .i64 y30.f0, .int .i64 y30.f1, .slice A174 l173.length c175] 24, Blk b41 [.int .i64 y36.f0, .int .i64 y36.f1, .slice A38 y36.f2.length c39] 24, Blk b9 [.int .i64 a0.f0, .int .i64 a0.f1, .slice A1 a0.f2.length c2] 24, Row k24 24 (.slice A26 y24.f2.length c27) y24.f2, Row k24 24 (.slice A38 y36.f2.length c39) y36.f2]) [7, 0, 1, 2, 3, 4, 5, 6, 8] 9 rfl rfl rfl ?_
              refine TL.cons (TL.storeE k24 (xs := l173) (xv := (⟨(-7), y455.f1, y455.f2⟩ : S24)) (ds := [.int .i64 (-7)]) rfl fsz3 hA458 hy456 rfl rfl rfl rfl (Nat.le_of_ble_eq_true rfl) (fun B W F1 F2 cs hd h1 h2 => by obtain ⟨v2_, rfl, g2_⟩ := k24_openM h1; exact k24_mkM W B _ _ (Kd.R_mono g2_ (fun _ => .inl))) ?_)
              rw [show (l173.length : Nat) = (l173.set x172.toNat (⟨(-7), y455.f1, y455.f2⟩ : S24)).length from by simp only [List.length_set]]
              refine TL.nil ?_
              refine TQ.inB ?_
              refine TQ.then_ ?_
              refine TC.region ?_
              refine TL.cons (TO.val rfl rfl rfl (Val.move rfl) ?_)
              refine TL.cons (TO.val rfl rfl rfl (Val.cmp rfl rfl run_add) ?_)
              refine TL.cons (TO.val rfl rfl rfl (Val.assign rfl) ?_)
              refine TL.nil ?_
              exact fun a W hF hO => ⟨IntKind.i64.wrap (x172 + 1), (l173.set x172.toNat (⟨(-7), y455.f1, y455.f2⟩ : S24)), A174, c175, h, (by first | rfl | assumption | (simp only [List.length_set]; first | rfl | assumption)), hF.sub ⟨rfl, rfl, rfl, rfl, rfl, rfl, rfl, rfl, rfl, trivial⟩, hO.selT (Ls := [Blk b10 [.int .i64 a1.f0, .int .i64 a1.f1, .slice A5 a1.f2.length c6] 24, Blk b29 [.int .i64 y24.f0, .int .i64 y24.f1, .slice A26 y24.f2.length c27] 24, Blk b35 [.int .i64 y30.f0, .int .i64 y30.f1, .slice A174 (l173.set x172.toNat (⟨(-7), y455.f1, y455.f2⟩ : S24)).length c175] 24, Blk b41 [.int .i64 y36.f0, .int .i64 y36.f1, .slice A38 y36.f2.length c39] 24, Blk b9 [.int .i64 a0.f0, .int .i64 a0.f1, .slice A1 a0.f2.length c2] 24, Row k24 24 (.slice A26 y24.f2.length c27) y24.f2, Row k24 24 (.slice A174 (l173.set x172.toNat (⟨(-7), y455.f1, y455.f2⟩ : S24)).length c175) (l173.set x172.toNat (⟨(-7), y455.f1, y455.f2⟩ : S24)), Row k24 24 (.slice A38 y36.f2.length c39) y36.f2]) [1, 2, 3, 4, 5, 6, 0, 7] 8 rfl rfl rfl⟩
            · refine TC.exit ?_
              refine TQ.thenX ?_
              refine TQ.thenX ?_
              refine TQ.inBX ?_
              exact fun a W hF hO => ⟨Option.some.inj h, hF.sub ⟨rfl, rfl, rfl, rfl, rfl, rfl, rfl, trivial⟩, hO.selT (Ls := [Blk b10 [.int .i64 a1.f0, .int .i64 a1.f1, .slice A5 a1.f2.length c6] 24, Blk b29 [.int .i64 y24.f0, .int .i64 y24.f1, .slice A26 y24.f2.length c27] 24, Blk b41 [.int .i64 y36.f0, .int .i64 y36.f1, .slice A38 y36.f2.length c39] 24, Blk b9 [.int .i64 a0.f0, .int .i64 a0.f1, .slice A1 a0.f2.length c2] 24, Row k24 24 (.slice A26 y24.f2.length c27) y24.f2, Row k24 24 (.slice A38 y36.f2.length c39) y36.f2]) [0, 1, 3, 4, 5, 7] 8 rfl rfl rfl⟩
      · refine TC.sel (Ls := [Row k24 24 (.slice A32 y30.f2.length c33) y30.f2, Blk b41 [.int .i64 y36.f0, .int .i64 y36.f1, .slice A38 y36.f2.length c39] 24, Row k24 24 (.slice A38 y36.f2.length c39) y36.f2, Blk b35 [.int .i64 y30.f0, .int .i64 y30.f1, .slice A32 y30.f2.length c33] 24, Blk b29 [.int .i64 y24.f0, .int .i64 y24.f1, .slice A26 y24.f2.length c27] 24, Row k24 24 (.slice A26 y24.f2.length c27) y24.f2, Blk b10 [.int .i64 a1.f0, .int .i64 a1.f1, .slice A5 a1.f2.length c6] 24, Blk b9 [.int .i64 a0.f0, .int .i64 a0.f1, .slice A1 a0.f2.length c2] 24]) [3, 0, 1, 2, 4, 5, 6, 7] 8 rfl rfl rfl ?_
        refine TC.share (fun G499 e500 hs501 hb502 => ?_)
        have rd503 : Rd G499 k24 A32 y30.f2 := Rd.row hs501
        have le504 : y30.f2.length ≤ c33 := Row.le hs501
        refine TC.sel (Ls := [Row k24 24 (.slice A38 y36.f2.length c39) y36.f2, Blk b41 [.int .i64 y36.f0, .int .i64 y36.f1, .slice A38 y36.f2.length c39] 24, Blk b35 [.int .i64 y30.f0, .int .i64 y30.f1, .slice A32 y30.f2.length c33] 24, Blk b29 [.int .i64 y24.f0, .int .i64 y24.f1, .slice A26 y24.f2.length c27] 24, Row k24 24 (.slice A26 y24.f2.length c27) y24.f2, Blk b10 [.int .i64 a1.f0, .int .i64 a1.f1, .slice A5 a1.f2.length c6] 24, Blk b9 [.int .i64 a0.f0, .int .i64 a0.f1, .slice A1 a0.f2.length c2] 24]) [1, 0, 2, 3, 4, 5, 6] 7 rfl rfl rfl ?_
        refine TC.share (fun G505 e506 hs507 hb508 => ?_)
        have rd509 : Rd G505 k24 A38 y36.f2 := Rd.row hs507
        have le510 : y36.f2.length ≤ c39 := Row.le hs507
        refine TC.regionAny [] [0, 1, 3, 4, 5, 6, 7, 8, 9, 10, 11, 12, 13, 14, 15, 16, 17, 18, 19, 20, 21, 22] mixed (by kernel_rfl) ?_
        refine TA.take 0 rfl (by kernel_rfl) rfl (PQ.then_ (PQ.then_ PQ.body)) rfl (Val.loadsB 1 (cs := [.int .i64 y30.f0, .int .i64 y30.f1, .slice A32 y30.f2.length c33]) agg24 fsz24 rfl rfl rfl rfl) (fun W hO => hO) ?_
        refine TA.take 1 rfl (by kernel_rfl) rfl (PQ.then_ (PQ.then_ PQ.body)) rfl (Val.loadsB 5 (cs := [.int .i64 a0.f0, .int .i64 a0.f1, .slice A1 a0.f2.length c2]) agg24 fsz24 rfl rfl rfl rfl) (fun W hO => hO) ?_
        obtain ⟨y511, hy512, h⟩ := bind_no h
        refine TA.eff 2 rfl (by kernel_rfl) rfl (TL.callV (Lin := []) (args := [.agg #[.int .i64 y30.f0, .int .i64 y30.f1, .slice A32 y30.f2.length c33], .agg #[.int .i64 a0.f0, .int .i64 a0.f1, .slice A1 a0.f2.length c2]]) rfl rfl rfl hbd12 rfl rfl (swageref11_Same.calls (a0 := y30) (a1 := a0) (rd503.up e506) le504 (hr3.up (Gd.le.trans e500 e506)) hl4 hy512) rfl ?_)
        rintro _ _ _ _ ⟨rfl, rfl, rfl⟩
        refine TA.next (fun W hO => hO) ?_
        refine TA.take 3 rfl (by kernel_rfl) rfl (PQ.then_ (PQ.then_ PQ.body)) rfl (Val.move rfl) (fun W hO => hO) ?_
        refine TK.split (p := y511 = true) h (fun hg513 h => ?_) (fun hg513 h => ?_)
        · have hk514 : y511 = true := hg513
          refine TA.take 4 rfl (by kernel_rfl) rfl (PQ.then_ (PQ.then_ PQ.body)) (Wt.yes rfl rfl rfl hk514) (Val.fieldAddrB Tryd.underlying24 rfl fsz3 rfl rfl rfl) (fun W hO => hO) ?_
          refine TA.take 5 rfl (by kernel_rfl) rfl (PQ.then_ (PQ.then_ PQ.body)) (Wt.yes rfl rfl rfl hk514) (Val.loadB 0 agg3 rfl rfl rfl) (fun W hO => hO) ?_
          refine TA.take 6 rfl (by kernel_rfl) rfl (PQ.then_ (PQ.then_ PQ.body)) (Wt.yes rfl rfl rfl hk514) (Val.cmp rfl rfl run_eql) (fun W hO => hO) ?_
          refine TA.take 7 rfl (by kernel_rfl) rfl (PQ.then_ (PQ.then_ PQ.body)) rfl (Val.pickY rfl hk514 rfl) (fun W hO => hO) ?_
          refine TA.take 8 rfl (by kernel_rfl) rfl (PQ.then_ (PQ.then_ PQ.body)) rfl (Val.move rfl) (fun W hO => hO) ?_
          refine TK.split (p := y36.f0 = 2) h (fun hg515 h => ?_) (fun hg515 h => ?_)
          · have hk516 : decide (y36.f0 = 2) = true := decide_eq_true hg515
            refine TA.take 9 rfl (by kernel_rfl) rfl (PQ.then_ (PQ.then_ PQ.body)) (Wt.yes rfl rfl rfl hk516) (Val.fieldAddrB Tryd.underlying24 rfl fsz22 rfl rfl rfl) (fun W hO => hO) ?_
            refine TA.take 10 rfl (by kernel_rfl) rfl (PQ.then_ (PQ.then_ PQ.body)) (Wt.yes rfl rfl rfl hk516) (Val.loadB 0 agg22 rfl rfl rfl) (fun W hO => hO) ?_
            refine TA.take 11 rfl (by kernel_rfl) rfl (PQ.then_ (PQ.then_ PQ.body)) (Wt.yes rfl rfl rfl hk516) (Val.len Tryd.underlying22 rfl) (fun W hO => hO) ?_
            refine TA.take 12 rfl (by kernel_rfl) rfl (PQ.then_ (PQ.then_ PQ.body)) (Wt.yes rfl rfl rfl hk516) (Val.cmp rfl rfl run_eql) (fun W hO => hO) ?_
            refine TA.take 13 rfl (by kernel_rfl) rfl (PQ.then_ (PQ.then_ PQ.body)) rfl (Val.pickY rfl hk516 rfl) (fun W hO => hO) ?_
            refine TA.take 14 rfl (by kernel_rfl) rfl (PQ.then_ (PQ.then_ PQ.body)) rfl (Val.move rfl) (fun W hO => hO) ?_
            refine TK.split (p := (y36.f2.length : Int) = 1) h (fun hg517 h => ?_) (fun hg517 h => ?_)
            · have hk518 : decide ((y36.f2.length : Int) = 1) = true := decide_eq_true hg517
              refine TA.take 15 rfl (by kernel_rfl) rfl (PQ.then_ (PQ.then_ PQ.body)) (Wt.yes rfl rfl rfl hk518) (Val.fieldAddrB Tryd.underlying24 rfl fsz22 rfl rfl rfl) (fun W hO => hO) ?_
              refine TA.take 16 rfl (by kernel_rfl) rfl (PQ.then_ (PQ.then_ PQ.body)) (Wt.yes rfl rfl rfl hk518) (Val.loadB 0 agg22 rfl rfl rfl) (fun W hO => hO) ?_
              obtain ⟨y519, hx520, h⟩ := bind_no h
              obtain ⟨ad521, cs527, hA522, hi523, hj524, hcl525, hK526⟩ := Rd.at rd509 hx520
              obtain ⟨A528, c529, rfl, hr530, hl531⟩ := k24_openR hK526
              refine TA.take 17 rfl (by kernel_rfl) rfl (PQ.then_ (PQ.then_ PQ.body)) (Wt.yes rfl rfl rfl hk518) (Val.indexAddr Tryd.underlying22 fsz24 rfl hA522 rfl hi523 hj524) (fun W hO => hO) ?_
              refine TA.take 18 rfl (by kernel_rfl) rfl (PQ.then_ (PQ.then_ PQ.body)) (Wt.yes rfl rfl rfl hk518) (Val.loadsS (cs := [.int .i64 y519.f0, .int .i64 y519.f1, .slice A528 y519.f2.length c529]) agg24 fsz24 rfl rfl (Cl.sub (off := 0) (n := 3) hcl525 rfl)) (fun W hO => hO) ?_
              refine TA.take 19 rfl (by kernel_rfl) rfl (PQ.then_ (PQ.then_ PQ.body)) (Wt.yes rfl rfl rfl hk518) (Val.loadsB 5 (cs := [.int .i64 a0.f0, .int .i64 a0.f1, .slice A1 a0.f2.length c2]) agg24 fsz24 rfl rfl rfl rfl) (fun W hO => hO) ?_
              obtain ⟨y532, hy533, h⟩ := bind_no h
              refine TA.eff 20 rfl (by kernel_rfl) rfl (TL.callV (Lin := []) (args := [.agg #[.int .i64 y519.f0, .int .i64 y519.f1, .slice A528 y519.f2.length c529], .agg #[.int .i64 a0.f0, .int .i64 a0.f1, .slice A1 a0.f2.length c2]]) (Wt.yes rfl rfl rfl hk518) rfl rfl hbd12 rfl rfl (swageref11_Same.calls (a0 := y519) (a1 := a0) hr530 hl531 (hr3.up (Gd.le.trans e500 e506)) hl4 hy533) rfl ?_)
              rintro _ _ _ _ ⟨rfl, rfl, rfl⟩
              refine TA.next (fun W hO => hO) ?_
              refine TA.take 21 rfl (by kernel_rfl) rfl (PQ.then_ (PQ.then_ PQ.body)) rfl (Val.pickY rfl hk518 rfl) (fun W hO => hO) ?_
              refine TA.take 22 rfl (by kernel_rfl) rfl (PQ.then_ (PQ.then_ PQ.body)) rfl (Val.assign rfl) (fun W hO => hO) ?_
              refine TA.done (by kernel_rfl) ?_
              refine TQ.back hb508 ?_
              refine TQ.back hb502 ?_
              exact fun a W hF hO => ⟨y532, h, hF.sub ⟨rfl, rfl, rfl, rfl, rfl, rfl, rfl, rfl, trivial⟩, hO.selT (Ls := [Blk b10 [.int .i64 a1.f0, .int .i64 a1.f1, .slice A5 a1.f2.length c6] 24, Blk b29 [.int .i64 y24.f0, .int .i64 y24.f1, .slice A26 y24.f2.length c27] 24, Blk b35 [.int .i64 y30.f0, .int .i64 y30.f1, .slice A32 y30.f2.length c33] 24, Blk b41 [.int .i64 y36.f0, .int .i64 y36.f1, .slice A38 y36.f2.length c39] 24, Blk b9 [.int .i64 a0.f0, .int .i64 a0.f1, .slice A1 a0.f2.length c2] 24, Row k24 24 (.slice A26 y24.f2.length c27) y24.f2, Row k24 24 (.slice A32 y30.f2.length c33) y30.f2, Row k24 24 (.slice A38 y36.f2.length c39) y36.f2]) [6, 4, 3, 2, 7, 5, 0, 1] 8 rfl rfl rfl⟩
            · have hk534 : decide ((y36.f2.length : Int) = 1) = false := decide_eq_false hg517
              refine TA.not 15 rfl (by kernel_rfl) rfl (PQ.then_ (PQ.then_ PQ.body)) (Wt.no rfl rfl rfl hk534) (fun W hO => hO) ?_
              refine TA.not 16 rfl (by kernel_rfl) rfl (PQ.then_ (PQ.then_ PQ.body)) (Wt.no rfl rfl rfl hk534) (fun W hO => hO) ?_
              refine TA.not 17 rfl (by kernel_rfl) rfl (PQ.then_ (PQ.then_ PQ.body)) (Wt.no rfl rfl rfl hk534) (fun W hO => hO) ?_
              refine TA.not 18 rfl (by kernel_rfl) rfl (PQ.then_ (PQ.then_ PQ.body)) (Wt.no rfl rfl rfl hk534) (fun W hO => hO) ?_
              refine TA.not 19 rfl (by kernel_rfl) rfl (PQ.then_ (PQ.then_ PQ.body)) (Wt.no rfl rfl rfl hk534) (fun W hO => hO) ?_
              refine TA.not 20 rfl (by kernel_rfl) rfl (PQ.then_ (PQ.then_ PQ.body)) (Wt.no rfl rfl rfl hk534) (fun W hO => hO) ?_
              refine TA.take 21 rfl (by kernel_rfl) rfl (PQ.then_ (PQ.then_ PQ.body)) rfl (Val.pickN rfl hk534 rfl) (fun W hO => hO) ?_
              refine TA.take 22 rfl (by kernel_rfl) rfl (PQ.then_ (PQ.then_ PQ.body)) rfl (Val.assign rfl) (fun W hO => hO) ?_
              refine TA.done (by kernel_rfl) ?_
              refine TQ.back hb508 ?_
              refine TQ.back hb502 ?_
              exact fun a W hF hO => ⟨false, h, hF.sub ⟨rfl, rfl, rfl, rfl, rfl, rfl, rfl, rfl, trivial⟩, hO.selT (Ls := [Blk b10 [.int .i64 a1.f0, .int .i64 a1.f1, .slice A5 a1.f2.length c6] 24, Blk b29 [.int .i64 y24.f0, .int .i64 y24.f1, .slice A26 y24.f2.length c27] 24, Blk b35 [.int .i64 y30.f0, .int .i64 y30.f1, .slice A32 y30.f2.length c33] 24, Blk b41 [.int .i64 y36.f0, .int .i64 y36.f1, .slice A38 y36.f2.length c39] 24, Blk b9 [.int .i64 a0.f0, .int .i64 a0.f1, .slice A1 a0.f2.length c2] 24, Row k24 24 (.slice A26 y24.f2.length c27) y24.f2, Row k24 24 (.slice A32 y30.f2.length c33) y30.f2, Row k24 24 (.slice A38 y36.f2.length c39) y36.f2]) [6, 4, 3, 2, 7, 5, 0, 1] 8 rfl rfl rfl⟩
          · have hk535 : decide (y36.f0 = 2) = false := decide_eq_false hg515
            refine TA.not 9 rfl (by kernel_rfl) rfl (PQ.then_ (PQ.then_ PQ.body)) (Wt.no rfl rfl rfl hk535) (fun W hO => hO) ?_
            refine TA.not 10 rfl (by kernel_rfl) rfl (PQ.then_ (PQ.then_ PQ.body)) (Wt.no rfl rfl rfl hk535) (fun W hO => hO) ?_
            refine TA.not 11 rfl (by kernel_rfl) rfl (PQ.then_ (PQ.then_ PQ.body)) (Wt.no rfl rfl rfl hk535) (fun W hO => hO) ?_
            refine TA.not 12 rfl (by kernel_rfl) rfl (PQ.then_ (PQ.then_ PQ.body)) (Wt.no rfl rfl rfl hk535) (fun W hO => hO) ?_
            refine TA.take 13 rfl (by kernel_rfl) rfl (PQ.then_ (PQ.then_ PQ.body)) rfl (Val.pickN rfl hk535 rfl) (fun W hO => hO) ?_
            refine TA.take 14 rfl (by kernel_rfl) rfl (PQ.then_ (PQ.then_ PQ.body)) rfl (Val.move rfl) (fun W hO => hO) ?_
            refine TA.not 15 rfl (by kernel_rfl) rfl (PQ.then_ (PQ.then_ PQ.body)) (Wt.no rfl rfl rfl rfl) (fun W hO => hO) ?_
            refine TA.not 16 rfl (by kernel_rfl) rfl (PQ.then_ (PQ.then_ PQ.body)) (Wt.no rfl rfl rfl rfl) (fun W hO => hO) ?_
            refine TA.not 17 rfl (by kernel_rfl) rfl (PQ.then_ (PQ.then_ PQ.body)) (Wt.no rfl rfl rfl rfl) (fun W hO => hO) ?_
            refine TA.not 18 rfl (by kernel_rfl) rfl (PQ.then_ (PQ.then_ PQ.body)) (Wt.no rfl rfl rfl rfl) (fun W hO => hO) ?_
            refine TA.not 19 rfl (by kernel_rfl) rfl (PQ.then_ (PQ.then_ PQ.body)) (Wt.no rfl rfl rfl rfl) (fun W hO => hO) ?_
            refine TA.not 20 rfl (by kernel_rfl) rfl (PQ.then_ (PQ.then_ PQ.body)) (Wt.no rfl rfl rfl rfl) (fun W hO => hO) ?_
            refine TA.take 21 rfl (by kernel_rfl) rfl (PQ.then_ (PQ.then_ PQ.body)) rfl (Val.pickN rfl rfl rfl) (fun W hO => hO) ?_
            refine TA.take 22 rfl (by kernel_rfl) rfl (PQ.then_ (PQ.then_ PQ.body)) rfl (Val.assign rfl) (fun W hO => hO) ?_
            refine TA.done (by kernel_rfl) ?_
            refine TQ.back hb508 ?_
            refine TQ.back hb502 ?_
            exact fun a W hF hO => ⟨false, h, hF.sub ⟨rfl, rfl, rfl, rfl, rfl, rfl, rfl, rfl, trivial⟩, hO.selT (Ls := [Blk b10 [.int .i64 a1.f0, .int .i64 a1.f1, .slice A5 a1.f2.length c6] 24, Blk b29 [.int .i64 y24.f0, .int .i64 y24.f1, .slice A26 y24.f2.length c27] 24, Blk b35 [.int .i64 y30.f0, .int .i64 y30.f1, .slice A32 y30.f2.length c33] 24, Blk b41 [.int .i64 y36.f0, .int .i64 y36.f1, .slice A38 y36.f2.length c39] 24, Blk b9 [.int .i64 a0.f0, .int .i64 a0.f1, .slice A1 a0.f2.length c2] 24, Row k24 24 (.slice A26 y24.f2.length c27) y24.f2, Row k24 24 (.slice A32 y30.f2.length c33) y30.f2, Row k24 24 (.slice A38 y36.f2.length c39) y36.f2]) [6, 4, 3, 2, 7, 5, 0, 1] 8 rfl rfl rfl⟩
        · have hk536 : y511 = false := (by simpa using hg513)
          refine TA.not 4 rfl (by kernel_rfl) rfl (PQ.then_ (PQ.then_ PQ.body)) (Wt.no rfl rfl rfl hk536) (fun W hO => hO) ?_
          refine TA.not 5 rfl (by kernel_rfl) rfl (PQ.then_ (PQ.then_ PQ.body)) (Wt.no rfl rfl rfl hk536) (fun W hO => hO) ?_
          refine TA.not 6 rfl (by kernel_rfl) rfl (PQ.then_ (PQ.then_ PQ.body)) (Wt.no rfl rfl rfl hk536) (fun W hO => hO) ?_
          refine TA.take 7 rfl (by kernel_rfl) rfl (PQ.then_ (PQ.then_ PQ.body)) rfl (Val.pickN rfl hk536 rfl) (fun W hO => hO) ?_
          refine TA.take 8 rfl (by kernel_rfl) rfl (PQ.then_ (PQ.then_ PQ.body)) rfl (Val.move rfl) (fun W hO => hO) ?_
          refine TA.not 9 rfl (by kernel_rfl) rfl (PQ.then_ (PQ.then_ PQ.body)) (Wt.no rfl rfl rfl rfl) (fun W hO => hO) ?_
          refine TA.not 10 rfl (by kernel_rfl) rfl (PQ.then_ (PQ.then_ PQ.body)) (Wt.no rfl rfl rfl rfl) (fun W hO => hO) ?_
          refine TA.not 11 rfl (by kernel_rfl) rfl (PQ.then_ (PQ.then_ PQ.body)) (Wt.no rfl rfl rfl rfl) (fun W hO => hO) ?_
          refine TA.not 12 rfl (by kernel_rfl) rfl (PQ.then_ (PQ.then_ PQ.body)) (Wt.no rfl rfl rfl rfl) (fun W hO => hO) ?_
          refine TA.take 13 rfl (by kernel_rfl) rfl (PQ.then_ (PQ.then_ PQ.body)) rfl (Val.pickN rfl rfl rfl) (fun W hO => hO) ?_
          refine TA.take 14 rfl (by kernel_rfl) rfl (PQ.then_ (PQ.then_ PQ.body)) rfl (Val.move rfl) (fun W hO => hO) ?_
          refine TA.not 15 rfl (by kernel_rfl) rfl (PQ.then_ (PQ.then_ PQ.body)) (Wt.no rfl rfl rfl rfl) (fun W hO => hO) ?_
          refine TA.not 16 rfl (by kernel_rfl) rfl (PQ.then_ (PQ.then_ PQ.body)) (Wt.no rfl rfl rfl rfl) (fun W hO => hO) ?_
          refine TA.not 17 rfl (by kernel_rfl) rfl (PQ.then_ (PQ.then_ PQ.body)) (Wt.no rfl rfl rfl rfl) (fun W hO => hO) ?_
          refine TA.not 18 rfl (by kernel_rfl) rfl (PQ.then_ (PQ.then_ PQ.body)) (Wt.no rfl rfl rfl rfl) (fun W hO => hO) ?_
          refine TA.not 19 rfl (by kernel_rfl) rfl (PQ.then_ (PQ.then_ PQ.body)) (Wt.no rfl rfl rfl rfl) (fun W hO => hO) ?_
          refine TA.not 20 rfl (by kernel_rfl) rfl (PQ.then_ (PQ.then_ PQ.body)) (Wt.no rfl rfl rfl rfl) (fun W hO => hO) ?_
          refine TA.take 21 rfl (by kernel_rfl) rfl (PQ.then_ (PQ.then_ PQ.body)) rfl (Val.pickN rfl rfl rfl) (fun W hO => hO) ?_
          refine TA.take 22 rfl (by kernel_rfl) rfl (PQ.then_ (PQ.then_ PQ.body)) rfl (Val.assign rfl) (fun W hO => hO) ?_
          refine TA.done (by kernel_rfl) ?_
          refine TQ.back hb508 ?_
          refine TQ.back hb502 ?_
          exact fun a W hF hO => ⟨false, h, hF.sub ⟨rfl, rfl, rfl, rfl, rfl, rfl, rfl, rfl, trivial⟩, hO.selT (Ls := [Blk b10 [.int .i64 a1.f0, .int .i64 a1.f1, .slice A5 a1.f2.length c6] 24, Blk b29 [.int .i64 y24.f0, .int .i64 y24.f1, .slice A26 y24.f2.length c27] 24, Blk b35 [.int .i64 y30.f0, .int .i64 y30.f1, .slice A32 y30.f2.length c33] 24, Blk b41 [.int .i64 y36.f0, .int .i64 y36.f1, .slice A38 y36.f2.length c39] 24, Blk b9 [.int .i64 a0.f0, .int .i64 a0.f1, .slice A1 a0.f2.length c2] 24, Row k24 24 (.slice A26 y24.f2.length c27) y24.f2, Row k24 24 (.slice A32 y30.f2.length c33) y30.f2, Row k24 24 (.slice A38 y36.f2.length c39) y36.f2]) [6, 4, 3, 2, 7, 5, 0, 1] 8 rfl rfl rfl⟩
  · refine TC.region ?_
    refine TL.cons (TO.val rfl rfl rfl (Val.loadsB 1 (cs := [.int .i64 a0.f0, .int .i64 a0.f1, .slice A1 a0.f2.length c2]) agg24 fsz24 rfl rfl rfl rfl) ?_)
    obtain ⟨y537, hy538, h⟩ := bind_no h
    refine TL.cons (TL.callV (Lin := []) (args := [.agg #[.int .i64 a0.f0, .int .i64 a0.f1, .slice A1 a0.f2.length c2]]) rfl rfl rfl hbd8 rfl rfl (swagelaw11_Few.calls (a0 := a0) hr3 hl4 hy538) rfl ?_)
    rintro _ _ _ _ ⟨rfl, rfl, rfl⟩
    refine TL.cons (TO.val rfl rfl rfl (Val.move rfl) ?_)
    refine TK.split (p := y537 = true) h (fun hg539 h => ?_) (fun hg539 h => ?_)
    · have hk540 : y537 = true := hg539
      refine TL.cons (TO.val (Wt.yes rfl rfl rfl hk540) rfl rfl (Val.loadsB 0 (cs := [.int .i64 a1.f0, .int .i64 a1.f1, .slice A5 a1.f2.length c6]) agg24 fsz24 rfl rfl rfl rfl) ?_)
      obtain ⟨y541, hy542, h⟩ := bind_no h
      refine TL.cons (TL.callV (Lin := []) (args := [.agg #[.int .i64 a1.f0, .int .i64 a1.f1, .slice A5 a1.f2.length c6]]) (Wt.yes rfl rfl rfl hk540) rfl rfl hbd8 rfl rfl (swagelaw11_Few.calls (a0 := a1) hr7 hl8 hy542) rfl ?_)
      rintro _ _ _ _ ⟨rfl, rfl, rfl⟩
      refine TL.cons (TO.val rfl rfl rfl (Val.pickY rfl hk540 rfl) ?_)
      refine TL.cons (TO.val rfl rfl rfl (Val.assign rfl) ?_)
      refine TL.nil ?_
      exact fun a W hF hO => ⟨y541, h, hF.sub ⟨rfl, rfl, rfl, rfl, rfl, trivial⟩, hO.selT (Ls := [Blk b10 [.int .i64 a1.f0, .int .i64 a1.f1, .slice A5 a1.f2.length c6] 24, Blk b9 [.int .i64 a0.f0, .int .i64 a0.f1, .slice A1 a0.f2.length c2] 24]) [0, 1] 2 rfl rfl rfl⟩
    · have hk543 : y537 = false := (by simpa using hg539)
      refine TL.cons (TL.not (Wt.no rfl rfl rfl hk543) rfl ?_)
      refine TL.cons (TL.not (Wt.no rfl rfl rfl hk543) rfl ?_)
      refine TL.cons (TO.val rfl rfl rfl (Val.pickN rfl hk543 rfl) ?_)
      refine TL.cons (TO.val rfl rfl rfl (Val.assign rfl) ?_)
      refine TL.nil ?_
      exact fun a W hF hO => ⟨false, h, hF.sub ⟨rfl, rfl, rfl, rfl, rfl, trivial⟩, hO.selT (Ls := [Blk b10 [.int .i64 a1.f0, .int .i64 a1.f1, .slice A5 a1.f2.length c6] 24, Blk b9 [.int .i64 a0.f0, .int .i64 a0.f1, .slice A1 a0.f2.length c2] 24]) [0, 1] 2 rfl rfl rfl⟩
end Go.Proofs.YtdklnjmdaecboaaDoor.Sy
