/- Texts of this work, joined: SyF67, SyF68, SyF34, SyF7. -/
import Derived.Test.YtmacdhkfgoahcaaDoorSyNCodeCopiesc
set_option linter.unusedVariables false
set_option linter.unusedSimpArgs false
set_option maxRecDepth 100000
set_option maxHeartbeats 4000000
namespace Go.Proofs.YtmacdhkfgoahcaaDoor.Sy
open Go Go.RowKit Go.Proofs.YtmacdhkfgoahcaaDoorW.PrintWords 
def code_opText.l0 (a0 : S40) : Nat → (List ByteArray) → Int → Option ((List ByteArray))
 | 0, _, _ => none
 | n5635 + 1, l5593, x5597 => (if x5597 < (a0.f5.length : Int) then (at? a0.f5 x5597).bind fun y5704 => (code_v.f y5704).bind fun (y5713 : ByteArray) => (if l5593.length < 8796093022208 then code_opText.l0 a0 n5635 (l5593 ++ [y5713]) (IntKind.i64.wrap (x5597 + 1)) else none) else some l5593)
def code_opText.f (a0 : S40) : Option ByteArray := (if a0.f0 = 1 then (code_v.f a0.f1).bind fun (y3262 : ByteArray) => (code_n.f a0.f4).bind fun (y3264 : ByteArray) => (strings_Join.f ([(⟨#[99, 111, 110, 115, 116]⟩ : ByteArray), y3262, y3264] : List ByteArray) (⟨#[32]⟩ : ByteArray)).bind fun (y3285 : ByteArray) => some y3285 else (if a0.f0 = 2 then (code_n.f a0.f4).bind fun (y3782 : ByteArray) => (if (⟨#[98, 105, 110, 46]⟩ : ByteArray).size + y3782.size ≤ 9223372036854775807 then (code_v.f a0.f1).bind fun (y3785 : ByteArray) => (code_v.f a0.f2).bind fun (y3787 : ByteArray) => (code_v.f a0.f3).bind fun (y3789 : ByteArray) => (strings_Join.f ([(cat (⟨#[98, 105, 110, 46]⟩ : ByteArray) y3782), y3785, y3787, y3789] : List ByteArray) (⟨#[32]⟩ : ByteArray)).bind fun (y3810 : ByteArray) => some y3810 else none) else (if a0.f0 = 3 then (code_v.f a0.f1).bind fun (y4241 : ByteArray) => (code_v.f a0.f2).bind fun (y4243 : ByteArray) => (strings_Join.f ([(⟨#[109, 111, 118, 101]⟩ : ByteArray), y4241, y4243] : List ByteArray) (⟨#[32]⟩ : ByteArray)).bind fun (y4264 : ByteArray) => some y4264 else (if a0.f0 = 4 then (code_v.f a0.f1).bind fun (y4646 : ByteArray) => (code_v.f a0.f2).bind fun (y4648 : ByteArray) => (code_n.f a0.f4).bind fun (y4650 : ByteArray) => (strings_Join.f ([(⟨#[108, 111, 97, 100]⟩ : ByteArray), y4646, y4648, y4650] : List ByteArray) (⟨#[32]⟩ : ByteArray)).bind fun (y4671 : ByteArray) => some y4671 else (if a0.f0 = 5 then (code_v.f a0.f2).bind fun (y4998 : ByteArray) => (code_n.f a0.f4).bind fun (y5000 : ByteArray) => (code_v.f a0.f3).bind fun (y5002 : ByteArray) => (strings_Join.f ([(⟨#[115, 116, 111, 114, 101]⟩ : ByteArray), y4998, y5000, y5002] : List ByteArray) (⟨#[32]⟩ : ByteArray)).bind fun (y5023 : ByteArray) => some y5023 else (if a0.f0 = 6 then (code_v.f a0.f1).bind fun (y5293 : ByteArray) => (code_n.f a0.f4).bind fun (y5295 : ByteArray) => (strings_Join.f ([(⟨#[110, 101, 119]⟩ : ByteArray), y5293, y5295] : List ByteArray) (⟨#[32]⟩ : ByteArray)).bind fun (y5316 : ByteArray) => some y5316 else (if a0.f0 = 7 then (code_v.f a0.f1).bind fun (y5515 : ByteArray) => (code_n.f a0.f4).bind fun (y5517 : ByteArray) => (code_opText.l0 a0 (a0.f5.length + 1) ([(⟨#[99, 97, 108, 108]⟩ : ByteArray), y5515, y5517] : List ByteArray) 0).bind fun (l5630 : (List ByteArray)) => (strings_Join.f l5630 (⟨#[32]⟩ : ByteArray)).bind fun (y5685 : ByteArray) => some y5685 else (if a0.f0 = 8 then (code_v.f a0.f1).bind fun (y5768 : ByteArray) => (strings_Join.f ([(⟨#[114, 101, 97, 100]⟩ : ByteArray), y5768] : List ByteArray) (⟨#[32]⟩ : ByteArray)).bind fun (y5789 : ByteArray) => some y5789 else (if a0.f0 = 9 then (code_v.f a0.f2).bind fun (y5816 : ByteArray) => (strings_Join.f ([(⟨#[112, 114, 105, 110, 116]⟩ : ByteArray), y5816] : List ByteArray) (⟨#[32]⟩ : ByteArray)).bind fun (y5837 : ByteArray) => some y5837 else some (⟨#[63]⟩ : ByteArray))))))))))
def code_opText.post (G : Gd)  (r : ByteArray) (v : Value) (G' : Gd) (Lr : List Ch) : Prop := G = G' ∧ v = .string r ∧ Lr = []
theorem code_opText.calls {G : Gd} {r : ByteArray} {a0 : S40} {A1 : Option Addr} {c2 : Nat} (ht : Tab G) (hr3 : Rd G (Kd.int .i64) A1 a0.f5) (hl4 : a0.f5.length ≤ c2) (h : code_opText.f a0 = some r) : Fn Tryd.prog 67 G [] [.agg #[.int .i64 a0.f0, .int .i64 a0.f1, .int .i64 a0.f2, .int .i64 a0.f3, .int .i64 a0.f4, .slice A1 a0.f5.length c2]] (code_opText.post G  r) := by
 refine Fn.intro (e := [(0, .agg #[.int .i64 a0.f0, .int .i64 a0.f1, .int .i64 a0.f2, .int .i64 a0.f3, .int .i64 a0.f4, .slice A1 a0.f5.length c2])]) 119 Tryd.func67 rfl Tryd.ntmps67 rfl rfl (Nat.le_of_ble_eq_true rfl) (fun L => ?_)
 unfold code_opText.f at h
 refine TC.seq ?_
 refine TC.region ?_
 refine TL.cons (TL.box (cs := [.int .i64 a0.f0, .int .i64 a0.f1, .int .i64 a0.f2, .int .i64 a0.f3, .int .i64 a0.f4, .slice A1 a0.f5.length c2]) rfl rfl rfl rfl (fun b5 => ?_))
 refine TL.cons (TO.val rfl rfl rfl (Val.assign rfl) ?_)
 refine TL.nil ?_
 refine TQ.then_ ?_
 refine TC.seq ?_
 refine TC.seq ?_
 refine TC.region ?_
 refine TL.cons (TO.val rfl rfl rfl (Val.fieldAddrB Tryd.underlying40 rfl fsz3 rfl rfl rfl) ?_)
 refine TL.cons (TO.val rfl rfl rfl (Val.loadB 0 agg3 rfl rfl rfl) ?_)
 refine TL.nil ?_
 refine TQ.then_ ?_
 refine TC.block ?_
 refine TC.seq ?_
 refine TC.region ?_
 refine TL.cons (TO.val rfl rfl rfl (Val.cmp rfl rfl run_eql) ?_)
 refine TL.cons (TO.val rfl rfl rfl (Val.assign rfl) ?_)
 refine TL.nil ?_
 refine TQ.then_ ?_
 refine TC.cond_p rfl h (fun hc3236 h => ?_) (fun hc3236 h => ?_)
 ·
  refine TC.seq ?_
  refine TC.regionAny [] [0, 1, 3, 4, 8] mixed (by kernel_rfl) ?_
  refine TA.take 0 rfl (by kernel_rfl) rfl (PQ.then_ (PQ.inB (PQ.then_ PQ.body))) rfl (Val.fieldAddrB Tryd.underlying40 rfl fsz3 rfl rfl rfl) (fun W hO => hO) ?_
  refine TA.take 1 rfl (by kernel_rfl) rfl (PQ.then_ (PQ.inB (PQ.then_ PQ.body))) rfl (Val.loadB 0 agg3 rfl rfl rfl) (fun W hO => hO) ?_
  refine TA.take 3 rfl (by kernel_rfl) rfl (PQ.then_ (PQ.inB (PQ.then_ PQ.body))) rfl (Val.fieldAddrB Tryd.underlying40 rfl fsz3 rfl rfl rfl) (fun W hO => hO) ?_
  refine TA.take 4 rfl (by kernel_rfl) rfl (PQ.then_ (PQ.inB (PQ.then_ PQ.body))) rfl (Val.loadB 0 agg3 rfl rfl rfl) (fun W hO => hO) ?_
  obtain ⟨y3262, hy3263, h⟩ := bind_no h
  refine TA.eff 2 rfl (by kernel_rfl) rfl (TL.callV (Lin := []) (args := [.int .i64 a0.f1]) rfl rfl rfl hbd86 rfl rfl (code_v.calls (a0 := a0.f1) ht hy3263) rfl ?_)
  rintro _ _ _ _ ⟨rfl, rfl, rfl⟩
  refine TA.next (fun W hO => hO) ?_
  obtain ⟨y3264, hy3265, h⟩ := bind_no h
  refine TA.eff 5 rfl (by kernel_rfl) rfl (TL.callV (Lin := []) (args := [.int .i64 a0.f4]) rfl rfl rfl hbd65 rfl rfl (code_n.calls (a0 := a0.f4) ht hy3265) rfl ?_)
  rintro _ _ _ _ ⟨rfl, rfl, rfl⟩
  refine TA.next (fun W hO => hO) ?_
  refine TA.eff 6 rfl (by kernel_rfl) rfl (TL.buildSlice (xs := [.const (.string (⟨#[99, 111, 110, 115, 116]⟩ : ByteArray)), .tmp 12, .tmp 15]) (vs := [.string (⟨#[99, 111, 110, 115, 116]⟩ : ByteArray), .string y3262, .string y3264]) (cs := [.string (⟨#[99, 111, 110, 115, 116]⟩ : ByteArray), .string y3262, .string y3264]) rfl rfl Tryd.underlying84 zs9 rfl rfl rfl rfl rfl rfl rfl rfl (fun b3266 => ?_))
  refine TA.next (fun W hO => hO.selT (Ls := [Blk b5 [.int .i64 a0.f0, .int .i64 a0.f1, .int .i64 a0.f2, .int .i64 a0.f3, .int .i64 a0.f4, .slice A1 a0.f5.length c2] 40]) [1] 2 rfl rfl rfl) ?_
  refine TA.eff 7 rfl (by kernel_rfl) rfl (TO.inl (args := [.slice (some ⟨b3266, 0, none⟩) 3 3]) (e' := [(0, .slice (some ⟨b3266, 0, none⟩) 3 3)]) 5 rfl rfl hbd64 rfl rfl Tryd.func64 rfl Tryd.ntmps64 rfl rfl (Nat.le_of_ble_eq_true rfl) (fun a3267 hf3268 => ?_))
  refine TC.seq ?_
  refine TC.region ?_
  refine TL.cons (TO.val rfl rfl rfl (Val.assign rfl) ?_)
  refine TL.nil ?_
  refine TQ.then_ ?_
  refine TC.seq ?_
  refine TC.region ?_
  refine TL.cons (TO.val rfl rfl rfl (Val.move rfl) ?_)
  refine TK.new (Els.nil Kd.string) ?_
  refine TK.new (El.of (k := Kd.string) (xv := (⟨#[99, 111, 110, 115, 116]⟩ : ByteArray)) (cs := [.string (⟨#[99, 111, 110, 115, 116]⟩ : ByteArray)]) (fun W B => rfl)) ?_
  refine TK.sel (Ls := [Els Kd.string [] [], El Kd.string (⟨#[99, 111, 110, 115, 116]⟩ : ByteArray) [.string (⟨#[99, 111, 110, 115, 116]⟩ : ByteArray)], Blk b3266 [.string (⟨#[99, 111, 110, 115, 116]⟩ : ByteArray), .string y3262, .string y3264] 9, Blk b5 [.int .i64 a0.f0, .int .i64 a0.f1, .int .i64 a0.f2, .int .i64 a0.f3, .int .i64 a0.f4, .slice A1 a0.f5.length c2] 40]) [1, 0, 2, 3] 4 rfl rfl rfl ?_
  refine TK.two (ch := Els Kd.string [(⟨#[99, 111, 110, 115, 116]⟩ : ByteArray)] [.string (⟨#[99, 111, 110, 115, 116]⟩ : ByteArray)]) (Els.snoc Kd.string) ?_
  refine TK.new (El.of (k := Kd.string) (xv := y3262) (cs := [.string y3262]) (fun W B => rfl)) ?_
  refine TK.sel (Ls := [Els Kd.string [(⟨#[99, 111, 110, 115, 116]⟩ : ByteArray)] [.string (⟨#[99, 111, 110, 115, 116]⟩ : ByteArray)], El Kd.string y3262 [.string y3262], Blk b3266 [.string (⟨#[99, 111, 110, 115, 116]⟩ : ByteArray), .string y3262, .string y3264] 9, Blk b5 [.int .i64 a0.f0, .int .i64 a0.f1, .int .i64 a0.f2, .int .i64 a0.f3, .int .i64 a0.f4, .slice A1 a0.f5.length c2] 40]) [1, 0, 2, 3] 4 rfl rfl rfl ?_
  refine TK.two (ch := Els Kd.string [(⟨#[99, 111, 110, 115, 116]⟩ : ByteArray), y3262] [.string (⟨#[99, 111, 110, 115, 116]⟩ : ByteArray), .string y3262]) (Els.snoc Kd.string) ?_
  refine TK.new (El.of (k := Kd.string) (xv := y3264) (cs := [.string y3264]) (fun W B => rfl)) ?_
  refine TK.sel (Ls := [Els Kd.string [(⟨#[99, 111, 110, 115, 116]⟩ : ByteArray), y3262] [.string (⟨#[99, 111, 110, 115, 116]⟩ : ByteArray), .string y3262], El Kd.string y3264 [.string y3264], Blk b3266 [.string (⟨#[99, 111, 110, 115, 116]⟩ : ByteArray), .string y3262, .string y3264] 9, Blk b5 [.int .i64 a0.f0, .int .i64 a0.f1, .int .i64 a0.f2, .int .i64 a0.f3, .int .i64 a0.f4, .slice A1 a0.f5.length c2] 40]) [1, 0, 2, 3] 4 rfl rfl rfl ?_
  refine TK.two (ch := Els Kd.string [(⟨#[99, 111, 110, 115, 116]⟩ : ByteArray), y3262, y3264] [.string (⟨#[99, 111, 110, 115, 116]⟩ : ByteArray), .string y3262, .string y3264]) (Els.snoc Kd.string) ?_
  refine TK.sel (Ls := [Blk b3266 [.string (⟨#[99, 111, 110, 115, 116]⟩ : ByteArray), .string y3262, .string y3264] 9, Els Kd.string [(⟨#[99, 111, 110, 115, 116]⟩ : ByteArray), y3262, y3264] [.string (⟨#[99, 111, 110, 115, 116]⟩ : ByteArray), .string y3262, .string y3264], Blk b5 [.int .i64 a0.f0, .int .i64 a0.f1, .int .i64 a0.f2, .int .i64 a0.f3, .int .i64 a0.f4, .slice A1 a0.f5.length c2] 40]) [1, 0, 2] 3 rfl rfl rfl ?_
  refine TK.two (ch := Row Kd.string 9 (.slice (some ⟨b3266, 0, none⟩) 3 3) ([(⟨#[99, 111, 110, 115, 116]⟩ : ByteArray), y3262, y3264] : List ByteArray)) (Row.lit Kd.string rfl rfl) ?_
  refine TK.share (fun G3279 e3280 hs3281 hb3282 => ?_)
  have rd3283 : Rd G3279 Kd.string (some ⟨b3266, 0, none⟩) ([(⟨#[99, 111, 110, 115, 116]⟩ : ByteArray), y3262, y3264] : List ByteArray) := Rd.row hs3281
  have le3284 : ([(⟨#[99, 111, 110, 115, 116]⟩ : ByteArray), y3262, y3264] : List ByteArray).length ≤ 3 := Row.le hs3281
  obtain ⟨y3285, hy3286, h⟩ := bind_no h
  refine TL.cons (TL.callV (Lin := []) (args := [.slice (some ⟨b3266, 0, none⟩) 3 3, .string (⟨#[32]⟩ : ByteArray)]) rfl rfl rfl hbd84 rfl rfl (strings_Join.calls (a0 := ([(⟨#[99, 111, 110, 115, 116]⟩ : ByteArray), y3262, y3264] : List ByteArray)) (a1 := (⟨#[32]⟩ : ByteArray)) (Row.pl (k := Kd.string) hs3281) rd3283 le3284 hy3286) rfl ?_)
  rintro _ _ _ _ ⟨rfl, rfl, rfl⟩
  refine TL.cons (TO.val rfl rfl rfl (Val.assign rfl) ?_)
  refine TL.nil ?_
  refine TQ.then_ ?_
  refine TC.ret ?_
  refine TQ.fin (v := .string y3285) (.inl rfl) rfl Tryd.results64 (.tmp rfl .nil) rfl (After.mk hf3268 rfl ?_)
  refine TA.next (fun W hO => (hb3282 _ _ hO).selT (Ls := [Blk b5 [.int .i64 a0.f0, .int .i64 a0.f1, .int .i64 a0.f2, .int .i64 a0.f3, .int .i64 a0.f4, .slice A1 a0.f5.length c2] 40]) [1] 2 rfl rfl rfl) ?_
  refine TA.take 8 rfl (by kernel_rfl) rfl (PQ.then_ (PQ.inB (PQ.then_ PQ.body))) rfl (Val.assign rfl) (fun W hO => (hb3282 _ _ hO).selT (Ls := [Blk b5 [.int .i64 a0.f0, .int .i64 a0.f1, .int .i64 a0.f2, .int .i64 a0.f3, .int .i64 a0.f4, .slice A1 a0.f5.length c2] 40]) [1] 2 rfl rfl rfl) ?_
  refine TA.done (by kernel_rfl) ?_
  refine TQ.then_ ?_
  refine TC.ret ?_
  refine TQ.inBR ?_
  refine TQ.thenR ?_
  refine TQ.back hb3282 ?_
  obtain rfl := Option.some.inj h
  exact TQ.fin (.inl rfl) rfl Tryd.results67 (.tmp rfl .nil) rfl (FRel.mk (Ls := []) [] 2 (Gd.le.refl _) rfl rfl rfl ⟨rfl, rfl, rfl⟩)
 ·
  refine TC.seq ?_
  refine TC.region ?_
  refine TL.cons (TO.val rfl rfl rfl (Val.cmp rfl rfl run_eql) ?_)
  refine TL.cons (TO.val rfl rfl rfl (Val.assign rfl) ?_)
  refine TL.nil ?_
  refine TQ.then_ ?_
  refine TC.cond_p rfl h (fun hc3751 h => ?_) (fun hc3751 h => ?_)
  ·
   refine TC.seq ?_
   refine TC.regionAny [] [0, 1, 3, 4, 5, 7, 8, 10, 11, 15] mixed (by kernel_rfl) ?_
   refine TA.take 0 rfl (by kernel_rfl) rfl (PQ.then_ (PQ.inB (PQ.then_ PQ.body))) rfl (Val.fieldAddrB Tryd.underlying40 rfl fsz3 rfl rfl rfl) (fun W hO => hO) ?_
   refine TA.take 1 rfl (by kernel_rfl) rfl (PQ.then_ (PQ.inB (PQ.then_ PQ.body))) rfl (Val.loadB 0 agg3 rfl rfl rfl) (fun W hO => hO) ?_
   refine TA.take 4 rfl (by kernel_rfl) rfl (PQ.then_ (PQ.inB (PQ.then_ PQ.body))) rfl (Val.fieldAddrB Tryd.underlying40 rfl fsz3 rfl rfl rfl) (fun W hO => hO) ?_
   refine TA.take 5 rfl (by kernel_rfl) rfl (PQ.then_ (PQ.inB (PQ.then_ PQ.body))) rfl (Val.loadB 0 agg3 rfl rfl rfl) (fun W hO => hO) ?_
   refine TA.take 7 rfl (by kernel_rfl) rfl (PQ.then_ (PQ.inB (PQ.then_ PQ.body))) rfl (Val.fieldAddrB Tryd.underlying40 rfl fsz3 rfl rfl rfl) (fun W hO => hO) ?_
   refine TA.take 8 rfl (by kernel_rfl) rfl (PQ.then_ (PQ.inB (PQ.then_ PQ.body))) rfl (Val.loadB 0 agg3 rfl rfl rfl) (fun W hO => hO) ?_
   refine TA.take 10 rfl (by kernel_rfl) rfl (PQ.then_ (PQ.inB (PQ.then_ PQ.body))) rfl (Val.fieldAddrB Tryd.underlying40 rfl fsz3 rfl rfl rfl) (fun W hO => hO) ?_
   refine TA.take 11 rfl (by kernel_rfl) rfl (PQ.then_ (PQ.inB (PQ.then_ PQ.body))) rfl (Val.loadB 0 agg3 rfl rfl rfl) (fun W hO => hO) ?_
   obtain ⟨y3782, hy3783, h⟩ := bind_no h
   refine TA.eff 2 rfl (by kernel_rfl) rfl (TL.callV (Lin := []) (args := [.int .i64 a0.f4]) rfl rfl rfl hbd65 rfl rfl (code_n.calls (a0 := a0.f4) ht hy3783) rfl ?_)
   rintro _ _ _ _ ⟨rfl, rfl, rfl⟩
   refine TA.next (fun W hO => hO) ?_
   obtain ⟨hz3784, h⟩ := ite_no h
   refine TA.take 3 rfl (by kernel_rfl) rfl (PQ.then_ (PQ.inB (PQ.then_ PQ.body))) rfl (Val.addS rfl rfl hz3784) (fun W hO => hO) ?_
   obtain ⟨y3785, hy3786, h⟩ := bind_no h
   refine TA.eff 6 rfl (by kernel_rfl) rfl (TL.callV (Lin := []) (args := [.int .i64 a0.f1]) rfl rfl rfl hbd86 rfl rfl (code_v.calls (a0 := a0.f1) ht hy3786) rfl ?_)
   rintro _ _ _ _ ⟨rfl, rfl, rfl⟩
   refine TA.next (fun W hO => hO) ?_
   obtain ⟨y3787, hy3788, h⟩ := bind_no h
   refine TA.eff 9 rfl (by kernel_rfl) rfl (TL.callV (Lin := []) (args := [.int .i64 a0.f2]) rfl rfl rfl hbd86 rfl rfl (code_v.calls (a0 := a0.f2) ht hy3788) rfl ?_)
   rintro _ _ _ _ ⟨rfl, rfl, rfl⟩
   refine TA.next (fun W hO => hO) ?_
   obtain ⟨y3789, hy3790, h⟩ := bind_no h
   refine TA.eff 12 rfl (by kernel_rfl) rfl (TL.callV (Lin := []) (args := [.int .i64 a0.f3]) rfl rfl rfl hbd86 rfl rfl (code_v.calls (a0 := a0.f3) ht hy3790) rfl ?_)
   rintro _ _ _ _ ⟨rfl, rfl, rfl⟩
   refine TA.next (fun W hO => hO) ?_
   refine TA.eff 13 rfl (by kernel_rfl) rfl (TL.buildSlice (xs := [.tmp 23, .tmp 26, .tmp 29, .tmp 32]) (vs := [.string (cat (⟨#[98, 105, 110, 46]⟩ : ByteArray) y3782), .string y3785, .string y3787, .string y3789]) (cs := [.string (cat (⟨#[98, 105, 110, 46]⟩ : ByteArray) y3782), .string y3785, .string y3787, .string y3789]) rfl rfl Tryd.underlying84 zs9 rfl rfl rfl rfl rfl rfl rfl rfl (fun b3791 => ?_))
   refine TA.next (fun W hO => hO.selT (Ls := [Blk b5 [.int .i64 a0.f0, .int .i64 a0.f1, .int .i64 a0.f2, .int .i64 a0.f3, .int .i64 a0.f4, .slice A1 a0.f5.length c2] 40]) [1] 2 rfl rfl rfl) ?_
   refine TA.eff 14 rfl (by kernel_rfl) rfl (TO.inl (args := [.slice (some ⟨b3791, 0, none⟩) 4 4]) (e' := [(0, .slice (some ⟨b3791, 0, none⟩) 4 4)]) 5 rfl rfl hbd64 rfl rfl Tryd.func64 rfl Tryd.ntmps64 rfl rfl (Nat.le_of_ble_eq_true rfl) (fun a3792 hf3793 => ?_))
   refine TC.seq ?_
   refine TC.region ?_
   refine TL.cons (TO.val rfl rfl rfl (Val.assign rfl) ?_)
   refine TL.nil ?_
   refine TQ.then_ ?_
   refine TC.seq ?_
   refine TC.region ?_
   refine TL.cons (TO.val rfl rfl rfl (Val.move rfl) ?_)
   refine TK.new (Els.nil Kd.string) ?_
   refine TK.new (El.of (k := Kd.string) (xv := (cat (⟨#[98, 105, 110, 46]⟩ : ByteArray) y3782)) (cs := [.string (cat (⟨#[98, 105, 110, 46]⟩ : ByteArray) y3782)]) (fun W B => rfl)) ?_
   refine TK.sel (Ls := [Els Kd.string [] [], El Kd.string (cat (⟨#[98, 105, 110, 46]⟩ : ByteArray) y3782) [.string (cat (⟨#[98, 105, 110, 46]⟩ : ByteArray) y3782)], Blk b3791 [.string (cat (⟨#[98, 105, 110, 46]⟩ : ByteArray) y3782), .string y3785, .string y3787, .string y3789] 9, Blk b5 [.int .i64 a0.f0, .int .i64 a0.f1, .int .i64 a0.f2, .int .i64 a0.f3, .int .i64 a0.f4, .slice A1 a0.f5.length c2] 40]) [1, 0, 2, 3] 4 rfl rfl rfl ?_
   refine TK.two (ch := Els Kd.string [(cat (⟨#[98, 105, 110, 46]⟩ : ByteArray) y3782)] [.string (cat (⟨#[98, 105, 110, 46]⟩ : ByteArray) y3782)]) (Els.snoc Kd.string) ?_
   refine TK.new (El.of (k := Kd.string) (xv := y3785) (cs := [.string y3785]) (fun W B => rfl)) ?_
   refine TK.sel (Ls := [Els Kd.string [(cat (⟨#[98, 105, 110, 46]⟩ : ByteArray) y3782)] [.string (cat (⟨#[98, 105, 110, 46]⟩ : ByteArray) y3782)], El Kd.string y3785 [.string y3785], Blk b3791 [.string (cat (⟨#[98, 105, 110, 46]⟩ : ByteArray) y3782), .string y3785, .string y3787, .string y3789] 9, Blk b5 [.int .i64 a0.f0, .int .i64 a0.f1, .int .i64 a0.f2, .int .i64 a0.f3, .int .i64 a0.f4, .slice A1 a0.f5.length c2] 40]) [1, 0, 2, 3] 4 rfl rfl rfl ?_
   refine TK.two (ch := Els Kd.string [(cat (⟨#[98, 105, 110, 46]⟩ : ByteArray) y3782), y3785] [.string (cat (⟨#[98, 105, 110, 46]⟩ : ByteArray) y3782), .string y3785]) (Els.snoc Kd.string) ?_
   refine TK.new (El.of (k := Kd.string) (xv := y3787) (cs := [.string y3787]) (fun W B => rfl)) ?_
   refine TK.sel (Ls := [Els Kd.string [(cat (⟨#[98, 105, 110, 46]⟩ : ByteArray) y3782), y3785] [.string (cat (⟨#[98, 105, 110, 46]⟩ : ByteArray) y3782), .string y3785], El Kd.string y3787 [.string y3787], Blk b3791 [.string (cat (⟨#[98, 105, 110, 46]⟩ : ByteArray) y3782), .string y3785, .string y3787, .string y3789] 9, Blk b5 [.int .i64 a0.f0, .int .i64 a0.f1, .int .i64 a0.f2, .int .i64 a0.f3, .int .i64 a0.f4, .slice A1 a0.f5.length c2] 40]) [1, 0, 2, 3] 4 rfl rfl rfl ?_
   refine TK.two (ch := Els Kd.string [(cat (⟨#[98, 105, 110, 46]⟩ : ByteArray) y3782), y3785, y3787] [.string (cat (⟨#[98, 105, 110, 46]⟩ : ByteArray) y3782), .string y3785, .string y3787]) (Els.snoc Kd.string) ?_
   refine TK.new (El.of (k := Kd.string) (xv := y3789) (cs := [.string y3789]) (fun W B => rfl)) ?_
   refine TK.sel (Ls := [Els Kd.string [(cat (⟨#[98, 105, 110, 46]⟩ : ByteArray) y3782), y3785, y3787] [.string (cat (⟨#[98, 105, 110, 46]⟩ : ByteArray) y3782), .string y3785, .string y3787], El Kd.string y3789 [.string y3789], Blk b3791 [.string (cat (⟨#[98, 105, 110, 46]⟩ : ByteArray) y3782), .string y3785, .string y3787, .string y3789] 9, Blk b5 [.int .i64 a0.f0, .int .i64 a0.f1, .int .i64 a0.f2, .int .i64 a0.f3, .int .i64 a0.f4, .slice A1 a0.f5.length c2] 40]) [1, 0, 2, 3] 4 rfl rfl rfl ?_
   refine TK.two (ch := Els Kd.string [(cat (⟨#[98, 105, 110, 46]⟩ : ByteArray) y3782), y3785, y3787, y3789] [.string (cat (⟨#[98, 105, 110, 46]⟩ : ByteArray) y3782), .string y3785, .string y3787, .string y3789]) (Els.snoc Kd.string) ?_
   refine TK.sel (Ls := [Blk b3791 [.string (cat (⟨#[98, 105, 110, 46]⟩ : ByteArray) y3782), .string y3785, .string y3787, .string y3789] 9, Els Kd.string [(cat (⟨#[98, 105, 110, 46]⟩ : ByteArray) y3782), y3785, y3787, y3789] [.string (cat (⟨#[98, 105, 110, 46]⟩ : ByteArray) y3782), .string y3785, .string y3787, .string y3789], Blk b5 [.int .i64 a0.f0, .int .i64 a0.f1, .int .i64 a0.f2, .int .i64 a0.f3, .int .i64 a0.f4, .slice A1 a0.f5.length c2] 40]) [1, 0, 2] 3 rfl rfl rfl ?_
   refine TK.two (ch := Row Kd.string 9 (.slice (some ⟨b3791, 0, none⟩) 4 4) ([(cat (⟨#[98, 105, 110, 46]⟩ : ByteArray) y3782), y3785, y3787, y3789] : List ByteArray)) (Row.lit Kd.string rfl rfl) ?_
   refine TK.share (fun G3804 e3805 hs3806 hb3807 => ?_)
   have rd3808 : Rd G3804 Kd.string (some ⟨b3791, 0, none⟩) ([(cat (⟨#[98, 105, 110, 46]⟩ : ByteArray) y3782), y3785, y3787, y3789] : List ByteArray) := Rd.row hs3806
   have le3809 : ([(cat (⟨#[98, 105, 110, 46]⟩ : ByteArray) y3782), y3785, y3787, y3789] : List ByteArray).length ≤ 4 := Row.le hs3806
   obtain ⟨y3810, hy3811, h⟩ := bind_no h
   refine TL.cons (TL.callV (Lin := []) (args := [.slice (some ⟨b3791, 0, none⟩) 4 4, .string (⟨#[32]⟩ : ByteArray)]) rfl rfl rfl hbd84 rfl rfl (strings_Join.calls (a0 := ([(cat (⟨#[98, 105, 110, 46]⟩ : ByteArray) y3782), y3785, y3787, y3789] : List ByteArray)) (a1 := (⟨#[32]⟩ : ByteArray)) (Row.pl (k := Kd.string) hs3806) rd3808 le3809 hy3811) rfl ?_)
   rintro _ _ _ _ ⟨rfl, rfl, rfl⟩
   refine TL.cons (TO.val rfl rfl rfl (Val.assign rfl) ?_)
   refine TL.nil ?_
   refine TQ.then_ ?_
   refine TC.ret ?_
   refine TQ.fin (v := .string y3810) (.inl rfl) rfl Tryd.results64 (.tmp rfl .nil) rfl (After.mk hf3793 rfl ?_)
   refine TA.next (fun W hO => (hb3807 _ _ hO).selT (Ls := [Blk b5 [.int .i64 a0.f0, .int .i64 a0.f1, .int .i64 a0.f2, .int .i64 a0.f3, .int .i64 a0.f4, .slice A1 a0.f5.length c2] 40]) [1] 2 rfl rfl rfl) ?_
   refine TA.take 15 rfl (by kernel_rfl) rfl (PQ.then_ (PQ.inB (PQ.then_ PQ.body))) rfl (Val.assign rfl) (fun W hO => (hb3807 _ _ hO).selT (Ls := [Blk b5 [.int .i64 a0.f0, .int .i64 a0.f1, .int .i64 a0.f2, .int .i64 a0.f3, .int .i64 a0.f4, .slice A1 a0.f5.length c2] 40]) [1] 2 rfl rfl rfl) ?_
   refine TA.done (by kernel_rfl) ?_
   refine TQ.then_ ?_
   refine TC.ret ?_
   refine TQ.inBR ?_
   refine TQ.thenR ?_
   refine TQ.back hb3807 ?_
   obtain rfl := Option.some.inj h
   exact TQ.fin (.inl rfl) rfl Tryd.results67 (.tmp rfl .nil) rfl (FRel.mk (Ls := []) [] 2 (Gd.le.refl _) rfl rfl rfl ⟨rfl, rfl, rfl⟩)
  ·
   refine TC.seq ?_
   refine TC.region ?_
   refine TL.cons (TO.val rfl rfl rfl (Val.cmp rfl rfl run_eql) ?_)
   refine TL.cons (TO.val rfl rfl rfl (Val.assign rfl) ?_)
   refine TL.nil ?_
   refine TQ.then_ ?_
   refine TC.cond_p rfl h (fun hc4215 h => ?_) (fun hc4215 h => ?_)
   ·
    refine TC.seq ?_
    refine TC.regionAny [] [0, 1, 3, 4, 8] mixed (by kernel_rfl) ?_
    refine TA.take 0 rfl (by kernel_rfl) rfl (PQ.then_ (PQ.inB (PQ.then_ PQ.body))) rfl (Val.fieldAddrB Tryd.underlying40 rfl fsz3 rfl rfl rfl) (fun W hO => hO) ?_
    refine TA.take 1 rfl (by kernel_rfl) rfl (PQ.then_ (PQ.inB (PQ.then_ PQ.body))) rfl (Val.loadB 0 agg3 rfl rfl rfl) (fun W hO => hO) ?_
    refine TA.take 3 rfl (by kernel_rfl) rfl (PQ.then_ (PQ.inB (PQ.then_ PQ.body))) rfl (Val.fieldAddrB Tryd.underlying40 rfl fsz3 rfl rfl rfl) (fun W hO => hO) ?_
    refine TA.take 4 rfl (by kernel_rfl) rfl (PQ.then_ (PQ.inB (PQ.then_ PQ.body))) rfl (Val.loadB 0 agg3 rfl rfl rfl) (fun W hO => hO) ?_
    obtain ⟨y4241, hy4242, h⟩ := bind_no h
    refine TA.eff 2 rfl (by kernel_rfl) rfl (TL.callV (Lin := []) (args := [.int .i64 a0.f1]) rfl rfl rfl hbd86 rfl rfl (code_v.calls (a0 := a0.f1) ht hy4242) rfl ?_)
    rintro _ _ _ _ ⟨rfl, rfl, rfl⟩
    refine TA.next (fun W hO => hO) ?_
    obtain ⟨y4243, hy4244, h⟩ := bind_no h
    refine TA.eff 5 rfl (by kernel_rfl) rfl (TL.callV (Lin := []) (args := [.int .i64 a0.f2]) rfl rfl rfl hbd86 rfl rfl (code_v.calls (a0 := a0.f2) ht hy4244) rfl ?_)
    rintro _ _ _ _ ⟨rfl, rfl, rfl⟩
    refine TA.next (fun W hO => hO) ?_
    refine TA.eff 6 rfl (by kernel_rfl) rfl (TL.buildSlice (xs := [.const (.string (⟨#[109, 111, 118, 101]⟩ : ByteArray)), .tmp 39, .tmp 42]) (vs := [.string (⟨#[109, 111, 118, 101]⟩ : ByteArray), .string y4241, .string y4243]) (cs := [.string (⟨#[109, 111, 118, 101]⟩ : ByteArray), .string y4241, .string y4243]) rfl rfl Tryd.underlying84 zs9 rfl rfl rfl rfl rfl rfl rfl rfl (fun b4245 => ?_))
    refine TA.next (fun W hO => hO.selT (Ls := [Blk b5 [.int .i64 a0.f0, .int .i64 a0.f1, .int .i64 a0.f2, .int .i64 a0.f3, .int .i64 a0.f4, .slice A1 a0.f5.length c2] 40]) [1] 2 rfl rfl rfl) ?_
    refine TA.eff 7 rfl (by kernel_rfl) rfl (TO.inl (args := [.slice (some ⟨b4245, 0, none⟩) 3 3]) (e' := [(0, .slice (some ⟨b4245, 0, none⟩) 3 3)]) 5 rfl rfl hbd64 rfl rfl Tryd.func64 rfl Tryd.ntmps64 rfl rfl (Nat.le_of_ble_eq_true rfl) (fun a4246 hf4247 => ?_))
    refine TC.seq ?_
    refine TC.region ?_
    refine TL.cons (TO.val rfl rfl rfl (Val.assign rfl) ?_)
    refine TL.nil ?_
    refine TQ.then_ ?_
    refine TC.seq ?_
    refine TC.region ?_
    refine TL.cons (TO.val rfl rfl rfl (Val.move rfl) ?_)
    refine TK.new (Els.nil Kd.string) ?_
    refine TK.new (El.of (k := Kd.string) (xv := (⟨#[109, 111, 118, 101]⟩ : ByteArray)) (cs := [.string (⟨#[109, 111, 118, 101]⟩ : ByteArray)]) (fun W B => rfl)) ?_
    refine TK.sel (Ls := [Els Kd.string [] [], El Kd.string (⟨#[109, 111, 118, 101]⟩ : ByteArray) [.string (⟨#[109, 111, 118, 101]⟩ : ByteArray)], Blk b4245 [.string (⟨#[109, 111, 118, 101]⟩ : ByteArray), .string y4241, .string y4243] 9, Blk b5 [.int .i64 a0.f0, .int .i64 a0.f1, .int .i64 a0.f2, .int .i64 a0.f3, .int .i64 a0.f4, .slice A1 a0.f5.length c2] 40]) [1, 0, 2, 3] 4 rfl rfl rfl ?_
    refine TK.two (ch := Els Kd.string [(⟨#[109, 111, 118, 101]⟩ : ByteArray)] [.string (⟨#[109, 111, 118, 101]⟩ : ByteArray)]) (Els.snoc Kd.string) ?_
    refine TK.new (El.of (k := Kd.string) (xv := y4241) (cs := [.string y4241]) (fun W B => rfl)) ?_
    refine TK.sel (Ls := [Els Kd.string [(⟨#[109, 111, 118, 101]⟩ : ByteArray)] [.string (⟨#[109, 111, 118, 101]⟩ : ByteArray)], El Kd.string y4241 [.string y4241], Blk b4245 [.string (⟨#[109, 111, 118, 101]⟩ : ByteArray), .string y4241, .string y4243] 9, Blk b5 [.int .i64 a0.f0, .int .i64 a0.f1, .int .i64 a0.f2, .int .i64 a0.f3, .int .i64 a0.f4, .slice A1 a0.f5.length c2] 40]) [1, 0, 2, 3] 4 rfl rfl rfl ?_
    refine TK.two (ch := Els Kd.string [(⟨#[109, 111, 118, 101]⟩ : ByteArray), y4241] [.string (⟨#[109, 111, 118, 101]⟩ : ByteArray), .string y4241]) (Els.snoc Kd.string) ?_
    refine TK.new (El.of (k := Kd.string) (xv := y4243) (cs := [.string y4243]) (fun W B => rfl)) ?_
    refine TK.sel (Ls := [Els Kd.string [(⟨#[109, 111, 118, 101]⟩ : ByteArray), y4241] [.string (⟨#[109, 111, 118, 101]⟩ : ByteArray), .string y4241], El Kd.string y4243 [.string y4243], Blk b4245 [.string (⟨#[109, 111, 118, 101]⟩ : ByteArray), .string y4241, .string y4243] 9, Blk b5 [.int .i64 a0.f0, .int .i64 a0.f1, .int .i64 a0.f2, .int .i64 a0.f3, .int .i64 a0.f4, .slice A1 a0.f5.length c2] 40]) [1, 0, 2, 3] 4 rfl rfl rfl ?_
    refine TK.two (ch := Els Kd.string [(⟨#[109, 111, 118, 101]⟩ : ByteArray), y4241, y4243] [.string (⟨#[109, 111, 118, 101]⟩ : ByteArray), .string y4241, .string y4243]) (Els.snoc Kd.string) ?_
    refine TK.sel (Ls := [Blk b4245 [.string (⟨#[109, 111, 118, 101]⟩ : ByteArray), .string y4241, .string y4243] 9, Els Kd.string [(⟨#[109, 111, 118, 101]⟩ : ByteArray), y4241, y4243] [.string (⟨#[109, 111, 118, 101]⟩ : ByteArray), .string y4241, .string y4243], Blk b5 [.int .i64 a0.f0, .int .i64 a0.f1, .int .i64 a0.f2, .int .i64 a0.f3, .int .i64 a0.f4, .slice A1 a0.f5.length c2] 40]) [1, 0, 2] 3 rfl rfl rfl ?_
    refine TK.two (ch := Row Kd.string 9 (.slice (some ⟨b4245, 0, none⟩) 3 3) ([(⟨#[109, 111, 118, 101]⟩ : ByteArray), y4241, y4243] : List ByteArray)) (Row.lit Kd.string rfl rfl) ?_
    refine TK.share (fun G4258 e4259 hs4260 hb4261 => ?_)
    have rd4262 : Rd G4258 Kd.string (some ⟨b4245, 0, none⟩) ([(⟨#[109, 111, 118, 101]⟩ : ByteArray), y4241, y4243] : List ByteArray) := Rd.row hs4260
    have le4263 : ([(⟨#[109, 111, 118, 101]⟩ : ByteArray), y4241, y4243] : List ByteArray).length ≤ 3 := Row.le hs4260
    obtain ⟨y4264, hy4265, h⟩ := bind_no h
    refine TL.cons (TL.callV (Lin := []) (args := [.slice (some ⟨b4245, 0, none⟩) 3 3, .string (⟨#[32]⟩ : ByteArray)]) rfl rfl rfl hbd84 rfl rfl (strings_Join.calls (a0 := ([(⟨#[109, 111, 118, 101]⟩ : ByteArray), y4241, y4243] : List ByteArray)) (a1 := (⟨#[32]⟩ : ByteArray)) (Row.pl (k := Kd.string) hs4260) rd4262 le4263 hy4265) rfl ?_)
    rintro _ _ _ _ ⟨rfl, rfl, rfl⟩
    refine TL.cons (TO.val rfl rfl rfl (Val.assign rfl) ?_)
    refine TL.nil ?_
    refine TQ.then_ ?_
    refine TC.ret ?_
    refine TQ.fin (v := .string y4264) (.inl rfl) rfl Tryd.results64 (.tmp rfl .nil) rfl (After.mk hf4247 rfl ?_)
    refine TA.next (fun W hO => (hb4261 _ _ hO).selT (Ls := [Blk b5 [.int .i64 a0.f0, .int .i64 a0.f1, .int .i64 a0.f2, .int .i64 a0.f3, .int .i64 a0.f4, .slice A1 a0.f5.length c2] 40]) [1] 2 rfl rfl rfl) ?_
    refine TA.take 8 rfl (by kernel_rfl) rfl (PQ.then_ (PQ.inB (PQ.then_ PQ.body))) rfl (Val.assign rfl) (fun W hO => (hb4261 _ _ hO).selT (Ls := [Blk b5 [.int .i64 a0.f0, .int .i64 a0.f1, .int .i64 a0.f2, .int .i64 a0.f3, .int .i64 a0.f4, .slice A1 a0.f5.length c2] 40]) [1] 2 rfl rfl rfl) ?_
    refine TA.done (by kernel_rfl) ?_
    refine TQ.then_ ?_
    refine TC.ret ?_
    refine TQ.inBR ?_
    refine TQ.thenR ?_
    refine TQ.back hb4261 ?_
    obtain rfl := Option.some.inj h
    exact TQ.fin (.inl rfl) rfl Tryd.results67 (.tmp rfl .nil) rfl (FRel.mk (Ls := []) [] 2 (Gd.le.refl _) rfl rfl rfl ⟨rfl, rfl, rfl⟩)
   ·
    refine TC.seq ?_
    refine TC.region ?_
    refine TL.cons (TO.val rfl rfl rfl (Val.cmp rfl rfl run_eql) ?_)
    refine TL.cons (TO.val rfl rfl rfl (Val.assign rfl) ?_)
    refine TL.nil ?_
    refine TQ.then_ ?_
    refine TC.cond_p rfl h (fun hc4618 h => ?_) (fun hc4618 h => ?_)
    ·
     refine TC.seq ?_
     refine TC.regionAny [] [0, 1, 3, 4, 6, 7, 11] mixed (by kernel_rfl) ?_
     refine TA.take 0 rfl (by kernel_rfl) rfl (PQ.then_ (PQ.inB (PQ.then_ PQ.body))) rfl (Val.fieldAddrB Tryd.underlying40 rfl fsz3 rfl rfl rfl) (fun W hO => hO) ?_
     refine TA.take 1 rfl (by kernel_rfl) rfl (PQ.then_ (PQ.inB (PQ.then_ PQ.body))) rfl (Val.loadB 0 agg3 rfl rfl rfl) (fun W hO => hO) ?_
     refine TA.take 3 rfl (by kernel_rfl) rfl (PQ.then_ (PQ.inB (PQ.then_ PQ.body))) rfl (Val.fieldAddrB Tryd.underlying40 rfl fsz3 rfl rfl rfl) (fun W hO => hO) ?_
     refine TA.take 4 rfl (by kernel_rfl) rfl (PQ.then_ (PQ.inB (PQ.then_ PQ.body))) rfl (Val.loadB 0 agg3 rfl rfl rfl) (fun W hO => hO) ?_
     refine TA.take 6 rfl (by kernel_rfl) rfl (PQ.then_ (PQ.inB (PQ.then_ PQ.body))) rfl (Val.fieldAddrB Tryd.underlying40 rfl fsz3 rfl rfl rfl) (fun W hO => hO) ?_
     refine TA.take 7 rfl (by kernel_rfl) rfl (PQ.then_ (PQ.inB (PQ.then_ PQ.body))) rfl (Val.loadB 0 agg3 rfl rfl rfl) (fun W hO => hO) ?_
     obtain ⟨y4646, hy4647, h⟩ := bind_no h
     refine TA.eff 2 rfl (by kernel_rfl) rfl (TL.callV (Lin := []) (args := [.int .i64 a0.f1]) rfl rfl rfl hbd86 rfl rfl (code_v.calls (a0 := a0.f1) ht hy4647) rfl ?_)
     rintro _ _ _ _ ⟨rfl, rfl, rfl⟩
     refine TA.next (fun W hO => hO) ?_
     obtain ⟨y4648, hy4649, h⟩ := bind_no h
     refine TA.eff 5 rfl (by kernel_rfl) rfl (TL.callV (Lin := []) (args := [.int .i64 a0.f2]) rfl rfl rfl hbd86 rfl rfl (code_v.calls (a0 := a0.f2) ht hy4649) rfl ?_)
     rintro _ _ _ _ ⟨rfl, rfl, rfl⟩
     refine TA.next (fun W hO => hO) ?_
     obtain ⟨y4650, hy4651, h⟩ := bind_no h
     refine TA.eff 8 rfl (by kernel_rfl) rfl (TL.callV (Lin := []) (args := [.int .i64 a0.f4]) rfl rfl rfl hbd65 rfl rfl (code_n.calls (a0 := a0.f4) ht hy4651) rfl ?_)
     rintro _ _ _ _ ⟨rfl, rfl, rfl⟩
     refine TA.next (fun W hO => hO) ?_
     refine TA.eff 9 rfl (by kernel_rfl) rfl (TL.buildSlice (xs := [.const (.string (⟨#[108, 111, 97, 100]⟩ : ByteArray)), .tmp 49, .tmp 52, .tmp 55]) (vs := [.string (⟨#[108, 111, 97, 100]⟩ : ByteArray), .string y4646, .string y4648, .string y4650]) (cs := [.string (⟨#[108, 111, 97, 100]⟩ : ByteArray), .string y4646, .string y4648, .string y4650]) rfl rfl Tryd.underlying84 zs9 rfl rfl rfl rfl rfl rfl rfl rfl (fun b4652 => ?_))
     refine TA.next (fun W hO => hO.selT (Ls := [Blk b5 [.int .i64 a0.f0, .int .i64 a0.f1, .int .i64 a0.f2, .int .i64 a0.f3, .int .i64 a0.f4, .slice A1 a0.f5.length c2] 40]) [1] 2 rfl rfl rfl) ?_
     refine TA.eff 10 rfl (by kernel_rfl) rfl (TO.inl (args := [.slice (some ⟨b4652, 0, none⟩) 4 4]) (e' := [(0, .slice (some ⟨b4652, 0, none⟩) 4 4)]) 5 rfl rfl hbd64 rfl rfl Tryd.func64 rfl Tryd.ntmps64 rfl rfl (Nat.le_of_ble_eq_true rfl) (fun a4653 hf4654 => ?_))
     refine TC.seq ?_
     refine TC.region ?_
     refine TL.cons (TO.val rfl rfl rfl (Val.assign rfl) ?_)
     refine TL.nil ?_
     refine TQ.then_ ?_
     refine TC.seq ?_
     refine TC.region ?_
     refine TL.cons (TO.val rfl rfl rfl (Val.move rfl) ?_)
     refine TK.new (Els.nil Kd.string) ?_
     refine TK.new (El.of (k := Kd.string) (xv := (⟨#[108, 111, 97, 100]⟩ : ByteArray)) (cs := [.string (⟨#[108, 111, 97, 100]⟩ : ByteArray)]) (fun W B => rfl)) ?_
     refine TK.sel (Ls := [Els Kd.string [] [], El Kd.string (⟨#[108, 111, 97, 100]⟩ : ByteArray) [.string (⟨#[108, 111, 97, 100]⟩ : ByteArray)], Blk b4652 [.string (⟨#[108, 111, 97, 100]⟩ : ByteArray), .string y4646, .string y4648, .string y4650] 9, Blk b5 [.int .i64 a0.f0, .int .i64 a0.f1, .int .i64 a0.f2, .int .i64 a0.f3, .int .i64 a0.f4, .slice A1 a0.f5.length c2] 40]) [1, 0, 2, 3] 4 rfl rfl rfl ?_
     refine TK.two (ch := Els Kd.string [(⟨#[108, 111, 97, 100]⟩ : ByteArray)] [.string (⟨#[108, 111, 97, 100]⟩ : ByteArray)]) (Els.snoc Kd.string) ?_
     refine TK.new (El.of (k := Kd.string) (xv := y4646) (cs := [.string y4646]) (fun W B => rfl)) ?_
     refine TK.sel (Ls := [Els Kd.string [(⟨#[108, 111, 97, 100]⟩ : ByteArray)] [.string (⟨#[108, 111, 97, 100]⟩ : ByteArray)], El Kd.string y4646 [.string y4646], Blk b4652 [.string (⟨#[108, 111, 97, 100]⟩ : ByteArray), .string y4646, .string y4648, .string y4650] 9, Blk b5 [.int .i64 a0.f0, .int .i64 a0.f1, .int .i64 a0.f2, .int .i64 a0.f3, .int .i64 a0.f4, .slice A1 a0.f5.length c2] 40]) [1, 0, 2, 3] 4 rfl rfl rfl ?_
     refine TK.two (ch := Els Kd.string [(⟨#[108, 111, 97, 100]⟩ : ByteArray), y4646] [.string (⟨#[108, 111, 97, 100]⟩ : ByteArray), .string y4646]) (Els.snoc Kd.string) ?_
     refine TK.new (El.of (k := Kd.string) (xv := y4648) (cs := [.string y4648]) (fun W B => rfl)) ?_
     refine TK.sel (Ls := [Els Kd.string [(⟨#[108, 111, 97, 100]⟩ : ByteArray), y4646] [.string (⟨#[108, 111, 97, 100]⟩ : ByteArray), .string y4646], El Kd.string y4648 [.string y4648], Blk b4652 [.string (⟨#[108, 111, 97, 100]⟩ : ByteArray), .string y4646, .string y4648, .string y4650] 9, Blk b5 [.int .i64 a0.f0, .int .i64 a0.f1, .int .i64 a0.f2, .int .i64 a0.f3, .int .i64 a0.f4, .slice A1 a0.f5.length c2] 40]) [1, 0, 2, 3] 4 rfl rfl rfl ?_
     refine TK.two (ch := Els Kd.string [(⟨#[108, 111, 97, 100]⟩ : ByteArray), y4646, y4648] [.string (⟨#[108, 111, 97, 100]⟩ : ByteArray), .string y4646, .string y4648]) (Els.snoc Kd.string) ?_
     refine TK.new (El.of (k := Kd.string) (xv := y4650) (cs := [.string y4650]) (fun W B => rfl)) ?_
     refine TK.sel (Ls := [Els Kd.string [(⟨#[108, 111, 97, 100]⟩ : ByteArray), y4646, y4648] [.string (⟨#[108, 111, 97, 100]⟩ : ByteArray), .string y4646, .string y4648], El Kd.string y4650 [.string y4650], Blk b4652 [.string (⟨#[108, 111, 97, 100]⟩ : ByteArray), .string y4646, .string y4648, .string y4650] 9, Blk b5 [.int .i64 a0.f0, .int .i64 a0.f1, .int .i64 a0.f2, .int .i64 a0.f3, .int .i64 a0.f4, .slice A1 a0.f5.length c2] 40]) [1, 0, 2, 3] 4 rfl rfl rfl ?_
     refine TK.two (ch := Els Kd.string [(⟨#[108, 111, 97, 100]⟩ : ByteArray), y4646, y4648, y4650] [.string (⟨#[108, 111, 97, 100]⟩ : ByteArray), .string y4646, .string y4648, .string y4650]) (Els.snoc Kd.string) ?_
     refine TK.sel (Ls := [Blk b4652 [.string (⟨#[108, 111, 97, 100]⟩ : ByteArray), .string y4646, .string y4648, .string y4650] 9, Els Kd.string [(⟨#[108, 111, 97, 100]⟩ : ByteArray), y4646, y4648, y4650] [.string (⟨#[108, 111, 97, 100]⟩ : ByteArray), .string y4646, .string y4648, .string y4650], Blk b5 [.int .i64 a0.f0, .int .i64 a0.f1, .int .i64 a0.f2, .int .i64 a0.f3, .int .i64 a0.f4, .slice A1 a0.f5.length c2] 40]) [1, 0, 2] 3 rfl rfl rfl ?_
     refine TK.two (ch := Row Kd.string 9 (.slice (some ⟨b4652, 0, none⟩) 4 4) ([(⟨#[108, 111, 97, 100]⟩ : ByteArray), y4646, y4648, y4650] : List ByteArray)) (Row.lit Kd.string rfl rfl) ?_
     refine TK.share (fun G4665 e4666 hs4667 hb4668 => ?_)
     have rd4669 : Rd G4665 Kd.string (some ⟨b4652, 0, none⟩) ([(⟨#[108, 111, 97, 100]⟩ : ByteArray), y4646, y4648, y4650] : List ByteArray) := Rd.row hs4667
     have le4670 : ([(⟨#[108, 111, 97, 100]⟩ : ByteArray), y4646, y4648, y4650] : List ByteArray).length ≤ 4 := Row.le hs4667
     obtain ⟨y4671, hy4672, h⟩ := bind_no h
     refine TL.cons (TL.callV (Lin := []) (args := [.slice (some ⟨b4652, 0, none⟩) 4 4, .string (⟨#[32]⟩ : ByteArray)]) rfl rfl rfl hbd84 rfl rfl (strings_Join.calls (a0 := ([(⟨#[108, 111, 97, 100]⟩ : ByteArray), y4646, y4648, y4650] : List ByteArray)) (a1 := (⟨#[32]⟩ : ByteArray)) (Row.pl (k := Kd.string) hs4667) rd4669 le4670 hy4672) rfl ?_)
     rintro _ _ _ _ ⟨rfl, rfl, rfl⟩
     refine TL.cons (TO.val rfl rfl rfl (Val.assign rfl) ?_)
     refine TL.nil ?_
     refine TQ.then_ ?_
     refine TC.ret ?_
     refine TQ.fin (v := .string y4671) (.inl rfl) rfl Tryd.results64 (.tmp rfl .nil) rfl (After.mk hf4654 rfl ?_)
     refine TA.next (fun W hO => (hb4668 _ _ hO).selT (Ls := [Blk b5 [.int .i64 a0.f0, .int .i64 a0.f1, .int .i64 a0.f2, .int .i64 a0.f3, .int .i64 a0.f4, .slice A1 a0.f5.length c2] 40]) [1] 2 rfl rfl rfl) ?_
     refine TA.take 11 rfl (by kernel_rfl) rfl (PQ.then_ (PQ.inB (PQ.then_ PQ.body))) rfl (Val.assign rfl) (fun W hO => (hb4668 _ _ hO).selT (Ls := [Blk b5 [.int .i64 a0.f0, .int .i64 a0.f1, .int .i64 a0.f2, .int .i64 a0.f3, .int .i64 a0.f4, .slice A1 a0.f5.length c2] 40]) [1] 2 rfl rfl rfl) ?_
     refine TA.done (by kernel_rfl) ?_
     refine TQ.then_ ?_
     refine TC.ret ?_
     refine TQ.inBR ?_
     refine TQ.thenR ?_
     refine TQ.back hb4668 ?_
     obtain rfl := Option.some.inj h
     exact TQ.fin (.inl rfl) rfl Tryd.results67 (.tmp rfl .nil) rfl (FRel.mk (Ls := []) [] 2 (Gd.le.refl _) rfl rfl rfl ⟨rfl, rfl, rfl⟩)
    ·
     refine TC.seq ?_
     refine TC.region ?_
     refine TL.cons (TO.val rfl rfl rfl (Val.cmp rfl rfl run_eql) ?_)
     refine TL.cons (TO.val rfl rfl rfl (Val.assign rfl) ?_)
     refine TL.nil ?_
     refine TQ.then_ ?_
     refine TC.cond_p rfl h (fun hc4970 h => ?_) (fun hc4970 h => ?_)
     ·
      refine TC.seq ?_
      refine TC.regionAny [] [0, 1, 3, 4, 6, 7, 11] mixed (by kernel_rfl) ?_
      refine TA.take 0 rfl (by kernel_rfl) rfl (PQ.then_ (PQ.inB (PQ.then_ PQ.body))) rfl (Val.fieldAddrB Tryd.underlying40 rfl fsz3 rfl rfl rfl) (fun W hO => hO) ?_
      refine TA.take 1 rfl (by kernel_rfl) rfl (PQ.then_ (PQ.inB (PQ.then_ PQ.body))) rfl (Val.loadB 0 agg3 rfl rfl rfl) (fun W hO => hO) ?_
      refine TA.take 3 rfl (by kernel_rfl) rfl (PQ.then_ (PQ.inB (PQ.then_ PQ.body))) rfl (Val.fieldAddrB Tryd.underlying40 rfl fsz3 rfl rfl rfl) (fun W hO => hO) ?_
      refine TA.take 4 rfl (by kernel_rfl) rfl (PQ.then_ (PQ.inB (PQ.then_ PQ.body))) rfl (Val.loadB 0 agg3 rfl rfl rfl) (fun W hO => hO) ?_
      refine TA.take 6 rfl (by kernel_rfl) rfl (PQ.then_ (PQ.inB (PQ.then_ PQ.body))) rfl (Val.fieldAddrB Tryd.underlying40 rfl fsz3 rfl rfl rfl) (fun W hO => hO) ?_
      refine TA.take 7 rfl (by kernel_rfl) rfl (PQ.then_ (PQ.inB (PQ.then_ PQ.body))) rfl (Val.loadB 0 agg3 rfl rfl rfl) (fun W hO => hO) ?_
      obtain ⟨y4998, hy4999, h⟩ := bind_no h
      refine TA.eff 2 rfl (by kernel_rfl) rfl (TL.callV (Lin := []) (args := [.int .i64 a0.f2]) rfl rfl rfl hbd86 rfl rfl (code_v.calls (a0 := a0.f2) ht hy4999) rfl ?_)
      rintro _ _ _ _ ⟨rfl, rfl, rfl⟩
      refine TA.next (fun W hO => hO) ?_
      obtain ⟨y5000, hy5001, h⟩ := bind_no h
      refine TA.eff 5 rfl (by kernel_rfl) rfl (TL.callV (Lin := []) (args := [.int .i64 a0.f4]) rfl rfl rfl hbd65 rfl rfl (code_n.calls (a0 := a0.f4) ht hy5001) rfl ?_)
      rintro _ _ _ _ ⟨rfl, rfl, rfl⟩
      refine TA.next (fun W hO => hO) ?_
      obtain ⟨y5002, hy5003, h⟩ := bind_no h
      refine TA.eff 8 rfl (by kernel_rfl) rfl (TL.callV (Lin := []) (args := [.int .i64 a0.f3]) rfl rfl rfl hbd86 rfl rfl (code_v.calls (a0 := a0.f3) ht hy5003) rfl ?_)
      rintro _ _ _ _ ⟨rfl, rfl, rfl⟩
      refine TA.next (fun W hO => hO) ?_
      refine TA.eff 9 rfl (by kernel_rfl) rfl (TL.buildSlice (xs := [.const (.string (⟨#[115, 116, 111, 114, 101]⟩ : ByteArray)), .tmp 62, .tmp 65, .tmp 68]) (vs := [.string (⟨#[115, 116, 111, 114, 101]⟩ : ByteArray), .string y4998, .string y5000, .string y5002]) (cs := [.string (⟨#[115, 116, 111, 114, 101]⟩ : ByteArray), .string y4998, .string y5000, .string y5002]) rfl rfl Tryd.underlying84 zs9 rfl rfl rfl rfl rfl rfl rfl rfl (fun b5004 => ?_))
      refine TA.next (fun W hO => hO.selT (Ls := [Blk b5 [.int .i64 a0.f0, .int .i64 a0.f1, .int .i64 a0.f2, .int .i64 a0.f3, .int .i64 a0.f4, .slice A1 a0.f5.length c2] 40]) [1] 2 rfl rfl rfl) ?_
      refine TA.eff 10 rfl (by kernel_rfl) rfl (TO.inl (args := [.slice (some ⟨b5004, 0, none⟩) 4 4]) (e' := [(0, .slice (some ⟨b5004, 0, none⟩) 4 4)]) 5 rfl rfl hbd64 rfl rfl Tryd.func64 rfl Tryd.ntmps64 rfl rfl (Nat.le_of_ble_eq_true rfl) (fun a5005 hf5006 => ?_))
      refine TC.seq ?_
      refine TC.region ?_
      refine TL.cons (TO.val rfl rfl rfl (Val.assign rfl) ?_)
      refine TL.nil ?_
      refine TQ.then_ ?_
      refine TC.seq ?_
      refine TC.region ?_
      refine TL.cons (TO.val rfl rfl rfl (Val.move rfl) ?_)
      refine TK.new (Els.nil Kd.string) ?_
      refine TK.new (El.of (k := Kd.string) (xv := (⟨#[115, 116, 111, 114, 101]⟩ : ByteArray)) (cs := [.string (⟨#[115, 116, 111, 114, 101]⟩ : ByteArray)]) (fun W B => rfl)) ?_
      refine TK.sel (Ls := [Els Kd.string [] [], El Kd.string (⟨#[115, 116, 111, 114, 101]⟩ : ByteArray) [.string (⟨#[115, 116, 111, 114, 101]⟩ : ByteArray)], Blk b5004 [.string (⟨#[115, 116, 111, 114, 101]⟩ : ByteArray), .string y4998, .string y5000, .string y5002] 9, Blk b5 [.int .i64 a0.f0, .int .i64 a0.f1, .int .i64 a0.f2, .int .i64 a0.f3, .int .i64 a0.f4, .slice A1 a0.f5.length c2] 40]) [1, 0, 2, 3] 4 rfl rfl rfl ?_
      refine TK.two (ch := Els Kd.string [(⟨#[115, 116, 111, 114, 101]⟩ : ByteArray)] [.string (⟨#[115, 116, 111, 114, 101]⟩ : ByteArray)]) (Els.snoc Kd.string) ?_
      refine TK.new (El.of (k := Kd.string) (xv := y4998) (cs := [.string y4998]) (fun W B => rfl)) ?_
      refine TK.sel (Ls := [Els Kd.string [(⟨#[115, 116, 111, 114, 101]⟩ : ByteArray)] [.string (⟨#[115, 116, 111, 114, 101]⟩ : ByteArray)], El Kd.string y4998 [.string y4998], Blk b5004 [.string (⟨#[115, 116, 111, 114, 101]⟩ : ByteArray), .string y4998, .string y5000, .string y5002] 9, Blk b5 [.int .i64 a0.f0, .int .i64 a0.f1, .int .i64 a0.f2, .int .i64 a0.f3, .int .i64 a0.f4, .slice A1 a0.f5.length c2] 40]) [1, 0, 2, 3] 4 rfl rfl rfl ?_
      refine TK.two (ch := Els Kd.string [(⟨#[115, 116, 111, 114, 101]⟩ : ByteArray), y4998] [.string (⟨#[115, 116, 111, 114, 101]⟩ : ByteArray), .string y4998]) (Els.snoc Kd.string) ?_
      refine TK.new (El.of (k := Kd.string) (xv := y5000) (cs := [.string y5000]) (fun W B => rfl)) ?_
      refine TK.sel (Ls := [Els Kd.string [(⟨#[115, 116, 111, 114, 101]⟩ : ByteArray), y4998] [.string (⟨#[115, 116, 111, 114, 101]⟩ : ByteArray), .string y4998], El Kd.string y5000 [.string y5000], Blk b5004 [.string (⟨#[115, 116, 111, 114, 101]⟩ : ByteArray), .string y4998, .string y5000, .string y5002] 9, Blk b5 [.int .i64 a0.f0, .int .i64 a0.f1, .int .i64 a0.f2, .int .i64 a0.f3, .int .i64 a0.f4, .slice A1 a0.f5.length c2] 40]) [1, 0, 2, 3] 4 rfl rfl rfl ?_
      refine TK.two (ch := Els Kd.string [(⟨#[115, 116, 111, 114, 101]⟩ : ByteArray), y4998, y5000] [.string (⟨#[115, 116, 111, 114, 101]⟩ : ByteArray), .string y4998, .string y5000]) (Els.snoc Kd.string) ?_
      refine TK.new (El.of (k := Kd.string) (xv := y5002) (cs := [.string y5002]) (fun W B => rfl)) ?_
      refine TK.sel (Ls := [Els Kd.string [(⟨#[115, 116, 111, 114, 101]⟩ : ByteArray), y4998, y5000] [.string (⟨#[115, 116, 111, 114, 101]⟩ : ByteArray), .string y4998, .string y5000], El Kd.string y5002 [.string y5002], Blk b5004 [.string (⟨#[115, 116, 111, 114, 101]⟩ : ByteArray), .string y4998, .string y5000, .string y5002] 9, Blk b5 [.int .i64 a0.f0, .int .i64 a0.f1, .int .i64 a0.f2, .int .i64 a0.f3, .int .i64 a0.f4, .slice A1 a0.f5.length c2] 40]) [1, 0, 2, 3] 4 rfl rfl rfl ?_
      refine TK.two (ch := Els Kd.string [(⟨#[115, 116, 111, 114, 101]⟩ : ByteArray), y4998, y5000, y5002] [.string (⟨#[115, 116, 111, 114, 101]⟩ : ByteArray), .string y4998, .string y5000, .string y5002]) (Els.snoc Kd.string) ?_
      refine TK.sel (Ls := [Blk b5004 [.string (⟨#[115, 116, 111, 114, 101]⟩ : ByteArray), .string y4998, .string y5000, .string y5002] 9, Els Kd.string [(⟨#[115, 116, 111, 114, 101]⟩ : ByteArray), y4998, y5000, y5002] [.string (⟨#[115, 116, 111, 114, 101]⟩ : ByteArray), .string y4998, .string y5000, .string y5002], Blk b5 [.int .i64 a0.f0, .int .i64 a0.f1, .int .i64 a0.f2, .int .i64 a0.f3, .int .i64 a0.f4, .slice A1 a0.f5.length c2] 40]) [1, 0, 2] 3 rfl rfl rfl ?_
      refine TK.two (ch := Row Kd.string 9 (.slice (some ⟨b5004, 0, none⟩) 4 4) ([(⟨#[115, 116, 111, 114, 101]⟩ : ByteArray), y4998, y5000, y5002] : List ByteArray)) (Row.lit Kd.string rfl rfl) ?_
      refine TK.share (fun G5017 e5018 hs5019 hb5020 => ?_)
      have rd5021 : Rd G5017 Kd.string (some ⟨b5004, 0, none⟩) ([(⟨#[115, 116, 111, 114, 101]⟩ : ByteArray), y4998, y5000, y5002] : List ByteArray) := Rd.row hs5019
      have le5022 : ([(⟨#[115, 116, 111, 114, 101]⟩ : ByteArray), y4998, y5000, y5002] : List ByteArray).length ≤ 4 := Row.le hs5019
      obtain ⟨y5023, hy5024, h⟩ := bind_no h
      refine TL.cons (TL.callV (Lin := []) (args := [.slice (some ⟨b5004, 0, none⟩) 4 4, .string (⟨#[32]⟩ : ByteArray)]) rfl rfl rfl hbd84 rfl rfl (strings_Join.calls (a0 := ([(⟨#[115, 116, 111, 114, 101]⟩ : ByteArray), y4998, y5000, y5002] : List ByteArray)) (a1 := (⟨#[32]⟩ : ByteArray)) (Row.pl (k := Kd.string) hs5019) rd5021 le5022 hy5024) rfl ?_)
      rintro _ _ _ _ ⟨rfl, rfl, rfl⟩
      refine TL.cons (TO.val rfl rfl rfl (Val.assign rfl) ?_)
      refine TL.nil ?_
      refine TQ.then_ ?_
      refine TC.ret ?_
      refine TQ.fin (v := .string y5023) (.inl rfl) rfl Tryd.results64 (.tmp rfl .nil) rfl (After.mk hf5006 rfl ?_)
      refine TA.next (fun W hO => (hb5020 _ _ hO).selT (Ls := [Blk b5 [.int .i64 a0.f0, .int .i64 a0.f1, .int .i64 a0.f2, .int .i64 a0.f3, .int .i64 a0.f4, .slice A1 a0.f5.length c2] 40]) [1] 2 rfl rfl rfl) ?_
      refine TA.take 11 rfl (by kernel_rfl) rfl (PQ.then_ (PQ.inB (PQ.then_ PQ.body))) rfl (Val.assign rfl) (fun W hO => (hb5020 _ _ hO).selT (Ls := [Blk b5 [.int .i64 a0.f0, .int .i64 a0.f1, .int .i64 a0.f2, .int .i64 a0.f3, .int .i64 a0.f4, .slice A1 a0.f5.length c2] 40]) [1] 2 rfl rfl rfl) ?_
      refine TA.done (by kernel_rfl) ?_
      refine TQ.then_ ?_
      refine TC.ret ?_
      refine TQ.inBR ?_
      refine TQ.thenR ?_
      refine TQ.back hb5020 ?_
      obtain rfl := Option.some.inj h
      exact TQ.fin (.inl rfl) rfl Tryd.results67 (.tmp rfl .nil) rfl (FRel.mk (Ls := []) [] 2 (Gd.le.refl _) rfl rfl rfl ⟨rfl, rfl, rfl⟩)
     ·
      refine TC.seq ?_
      refine TC.region ?_
      refine TL.cons (TO.val rfl rfl rfl (Val.cmp rfl rfl run_eql) ?_)
      refine TL.cons (TO.val rfl rfl rfl (Val.assign rfl) ?_)
      refine TL.nil ?_
      refine TQ.then_ ?_
      refine TC.cond_p rfl h (fun hc5267 h => ?_) (fun hc5267 h => ?_)
      ·
       refine TC.seq ?_
       refine TC.regionAny [] [0, 1, 3, 4, 8] mixed (by kernel_rfl) ?_
       refine TA.take 0 rfl (by kernel_rfl) rfl (PQ.then_ (PQ.inB (PQ.then_ PQ.body))) rfl (Val.fieldAddrB Tryd.underlying40 rfl fsz3 rfl rfl rfl) (fun W hO => hO) ?_
       refine TA.take 1 rfl (by kernel_rfl) rfl (PQ.then_ (PQ.inB (PQ.then_ PQ.body))) rfl (Val.loadB 0 agg3 rfl rfl rfl) (fun W hO => hO) ?_
       refine TA.take 3 rfl (by kernel_rfl) rfl (PQ.then_ (PQ.inB (PQ.then_ PQ.body))) rfl (Val.fieldAddrB Tryd.underlying40 rfl fsz3 rfl rfl rfl) (fun W hO => hO) ?_
       refine TA.take 4 rfl (by kernel_rfl) rfl (PQ.then_ (PQ.inB (PQ.then_ PQ.body))) rfl (Val.loadB 0 agg3 rfl rfl rfl) (fun W hO => hO) ?_
       obtain ⟨y5293, hy5294, h⟩ := bind_no h
       refine TA.eff 2 rfl (by kernel_rfl) rfl (TL.callV (Lin := []) (args := [.int .i64 a0.f1]) rfl rfl rfl hbd86 rfl rfl (code_v.calls (a0 := a0.f1) ht hy5294) rfl ?_)
       rintro _ _ _ _ ⟨rfl, rfl, rfl⟩
       refine TA.next (fun W hO => hO) ?_
       obtain ⟨y5295, hy5296, h⟩ := bind_no h
       refine TA.eff 5 rfl (by kernel_rfl) rfl (TL.callV (Lin := []) (args := [.int .i64 a0.f4]) rfl rfl rfl hbd65 rfl rfl (code_n.calls (a0 := a0.f4) ht hy5296) rfl ?_)
       rintro _ _ _ _ ⟨rfl, rfl, rfl⟩
       refine TA.next (fun W hO => hO) ?_
       refine TA.eff 6 rfl (by kernel_rfl) rfl (TL.buildSlice (xs := [.const (.string (⟨#[110, 101, 119]⟩ : ByteArray)), .tmp 75, .tmp 78]) (vs := [.string (⟨#[110, 101, 119]⟩ : ByteArray), .string y5293, .string y5295]) (cs := [.string (⟨#[110, 101, 119]⟩ : ByteArray), .string y5293, .string y5295]) rfl rfl Tryd.underlying84 zs9 rfl rfl rfl rfl rfl rfl rfl rfl (fun b5297 => ?_))
       refine TA.next (fun W hO => hO.selT (Ls := [Blk b5 [.int .i64 a0.f0, .int .i64 a0.f1, .int .i64 a0.f2, .int .i64 a0.f3, .int .i64 a0.f4, .slice A1 a0.f5.length c2] 40]) [1] 2 rfl rfl rfl) ?_
       refine TA.eff 7 rfl (by kernel_rfl) rfl (TO.inl (args := [.slice (some ⟨b5297, 0, none⟩) 3 3]) (e' := [(0, .slice (some ⟨b5297, 0, none⟩) 3 3)]) 5 rfl rfl hbd64 rfl rfl Tryd.func64 rfl Tryd.ntmps64 rfl rfl (Nat.le_of_ble_eq_true rfl) (fun a5298 hf5299 => ?_))
       refine TC.seq ?_
       refine TC.region ?_
       refine TL.cons (TO.val rfl rfl rfl (Val.assign rfl) ?_)
       refine TL.nil ?_
       refine TQ.then_ ?_
       refine TC.seq ?_
       refine TC.region ?_
       refine TL.cons (TO.val rfl rfl rfl (Val.move rfl) ?_)
       refine TK.new (Els.nil Kd.string) ?_
       refine TK.new (El.of (k := Kd.string) (xv := (⟨#[110, 101, 119]⟩ : ByteArray)) (cs := [.string (⟨#[110, 101, 119]⟩ : ByteArray)]) (fun W B => rfl)) ?_
       refine TK.sel (Ls := [Els Kd.string [] [], El Kd.string (⟨#[110, 101, 119]⟩ : ByteArray) [.string (⟨#[110, 101, 119]⟩ : ByteArray)], Blk b5297 [.string (⟨#[110, 101, 119]⟩ : ByteArray), .string y5293, .string y5295] 9, Blk b5 [.int .i64 a0.f0, .int .i64 a0.f1, .int .i64 a0.f2, .int .i64 a0.f3, .int .i64 a0.f4, .slice A1 a0.f5.length c2] 40]) [1, 0, 2, 3] 4 rfl rfl rfl ?_
       refine TK.two (ch := Els Kd.string [(⟨#[110, 101, 119]⟩ : ByteArray)] [.string (⟨#[110, 101, 119]⟩ : ByteArray)]) (Els.snoc Kd.string) ?_
       refine TK.new (El.of (k := Kd.string) (xv := y5293) (cs := [.string y5293]) (fun W B => rfl)) ?_
       refine TK.sel (Ls := [Els Kd.string [(⟨#[110, 101, 119]⟩ : ByteArray)] [.string (⟨#[110, 101, 119]⟩ : ByteArray)], El Kd.string y5293 [.string y5293], Blk b5297 [.string (⟨#[110, 101, 119]⟩ : ByteArray), .string y5293, .string y5295] 9, Blk b5 [.int .i64 a0.f0, .int .i64 a0.f1, .int .i64 a0.f2, .int .i64 a0.f3, .int .i64 a0.f4, .slice A1 a0.f5.length c2] 40]) [1, 0, 2, 3] 4 rfl rfl rfl ?_
       refine TK.two (ch := Els Kd.string [(⟨#[110, 101, 119]⟩ : ByteArray), y5293] [.string (⟨#[110, 101, 119]⟩ : ByteArray), .string y5293]) (Els.snoc Kd.string) ?_
       refine TK.new (El.of (k := Kd.string) (xv := y5295) (cs := [.string y5295]) (fun W B => rfl)) ?_
       refine TK.sel (Ls := [Els Kd.string [(⟨#[110, 101, 119]⟩ : ByteArray), y5293] [.string (⟨#[110, 101, 119]⟩ : ByteArray), .string y5293], El Kd.string y5295 [.string y5295], Blk b5297 [.string (⟨#[110, 101, 119]⟩ : ByteArray), .string y5293, .string y5295] 9, Blk b5 [.int .i64 a0.f0, .int .i64 a0.f1, .int .i64 a0.f2, .int .i64 a0.f3, .int .i64 a0.f4, .slice A1 a0.f5.length c2] 40]) [1, 0, 2, 3] 4 rfl rfl rfl ?_
       refine TK.two (ch := Els Kd.string [(⟨#[110, 101, 119]⟩ : ByteArray), y5293, y5295] [.string (⟨#[110, 101, 119]⟩ : ByteArray), .string y5293, .string y5295]) (Els.snoc Kd.string) ?_
       refine TK.sel (Ls := [Blk b5297 [.string (⟨#[110, 101, 119]⟩ : ByteArray), .string y5293, .string y5295] 9, Els Kd.string [(⟨#[110, 101, 119]⟩ : ByteArray), y5293, y5295] [.string (⟨#[110, 101, 119]⟩ : ByteArray), .string y5293, .string y5295], Blk b5 [.int .i64 a0.f0, .int .i64 a0.f1, .int .i64 a0.f2, .int .i64 a0.f3, .int .i64 a0.f4, .slice A1 a0.f5.length c2] 40]) [1, 0, 2] 3 rfl rfl rfl ?_
       refine TK.two (ch := Row Kd.string 9 (.slice (some ⟨b5297, 0, none⟩) 3 3) ([(⟨#[110, 101, 119]⟩ : ByteArray), y5293, y5295] : List ByteArray)) (Row.lit Kd.string rfl rfl) ?_
       refine TK.share (fun G5310 e5311 hs5312 hb5313 => ?_)
       have rd5314 : Rd G5310 Kd.string (some ⟨b5297, 0, none⟩) ([(⟨#[110, 101, 119]⟩ : ByteArray), y5293, y5295] : List ByteArray) := Rd.row hs5312
       have le5315 : ([(⟨#[110, 101, 119]⟩ : ByteArray), y5293, y5295] : List ByteArray).length ≤ 3 := Row.le hs5312
       obtain ⟨y5316, hy5317, h⟩ := bind_no h
       refine TL.cons (TL.callV (Lin := []) (args := [.slice (some ⟨b5297, 0, none⟩) 3 3, .string (⟨#[32]⟩ : ByteArray)]) rfl rfl rfl hbd84 rfl rfl (strings_Join.calls (a0 := ([(⟨#[110, 101, 119]⟩ : ByteArray), y5293, y5295] : List ByteArray)) (a1 := (⟨#[32]⟩ : ByteArray)) (Row.pl (k := Kd.string) hs5312) rd5314 le5315 hy5317) rfl ?_)
       rintro _ _ _ _ ⟨rfl, rfl, rfl⟩
       refine TL.cons (TO.val rfl rfl rfl (Val.assign rfl) ?_)
       refine TL.nil ?_
       refine TQ.then_ ?_
       refine TC.ret ?_
       refine TQ.fin (v := .string y5316) (.inl rfl) rfl Tryd.results64 (.tmp rfl .nil) rfl (After.mk hf5299 rfl ?_)
       refine TA.next (fun W hO => (hb5313 _ _ hO).selT (Ls := [Blk b5 [.int .i64 a0.f0, .int .i64 a0.f1, .int .i64 a0.f2, .int .i64 a0.f3, .int .i64 a0.f4, .slice A1 a0.f5.length c2] 40]) [1] 2 rfl rfl rfl) ?_
       refine TA.take 8 rfl (by kernel_rfl) rfl (PQ.then_ (PQ.inB (PQ.then_ PQ.body))) rfl (Val.assign rfl) (fun W hO => (hb5313 _ _ hO).selT (Ls := [Blk b5 [.int .i64 a0.f0, .int .i64 a0.f1, .int .i64 a0.f2, .int .i64 a0.f3, .int .i64 a0.f4, .slice A1 a0.f5.length c2] 40]) [1] 2 rfl rfl rfl) ?_
       refine TA.done (by kernel_rfl) ?_
       refine TQ.then_ ?_
       refine TC.ret ?_
       refine TQ.inBR ?_
       refine TQ.thenR ?_
       refine TQ.back hb5313 ?_
       obtain rfl := Option.some.inj h
       exact TQ.fin (.inl rfl) rfl Tryd.results67 (.tmp rfl .nil) rfl (FRel.mk (Ls := []) [] 2 (Gd.le.refl _) rfl rfl rfl ⟨rfl, rfl, rfl⟩)
      ·
       refine TC.seq ?_
       refine TC.region ?_
       refine TL.cons (TO.val rfl rfl rfl (Val.cmp rfl rfl run_eql) ?_)
       refine TL.cons (TO.val rfl rfl rfl (Val.assign rfl) ?_)
       refine TL.nil ?_
       refine TQ.then_ ?_
       refine TC.cond_p rfl h (fun hc5509 h => ?_) (fun hc5509 h => ?_)
       ·
        refine TC.seq ?_
        refine TC.regionAny [] [0, 1, 3, 4, 7] mixed (by kernel_rfl) ?_
        refine TA.take 0 rfl (by kernel_rfl) rfl (PQ.then_ (PQ.inB (PQ.then_ PQ.body))) rfl (Val.fieldAddrB Tryd.underlying40 rfl fsz3 rfl rfl rfl) (fun W hO => hO) ?_
        refine TA.take 1 rfl (by kernel_rfl) rfl (PQ.then_ (PQ.inB (PQ.then_ PQ.body))) rfl (Val.loadB 0 agg3 rfl rfl rfl) (fun W hO => hO) ?_
        refine TA.take 3 rfl (by kernel_rfl) rfl (PQ.then_ (PQ.inB (PQ.then_ PQ.body))) rfl (Val.fieldAddrB Tryd.underlying40 rfl fsz3 rfl rfl rfl) (fun W hO => hO) ?_
        refine TA.take 4 rfl (by kernel_rfl) rfl (PQ.then_ (PQ.inB (PQ.then_ PQ.body))) rfl (Val.loadB 0 agg3 rfl rfl rfl) (fun W hO => hO) ?_
        obtain ⟨y5515, hy5516, h⟩ := bind_no h
        refine TA.eff 2 rfl (by kernel_rfl) rfl (TL.callV (Lin := []) (args := [.int .i64 a0.f1]) rfl rfl rfl hbd86 rfl rfl (code_v.calls (a0 := a0.f1) ht hy5516) rfl ?_)
        rintro _ _ _ _ ⟨rfl, rfl, rfl⟩
        refine TA.next (fun W hO => hO) ?_
        obtain ⟨y5517, hy5518, h⟩ := bind_no h
        refine TA.eff 5 rfl (by kernel_rfl) rfl (TL.callV (Lin := []) (args := [.int .i64 a0.f4]) rfl rfl rfl hbd65 rfl rfl (code_n.calls (a0 := a0.f4) ht hy5518) rfl ?_)
        rintro _ _ _ _ ⟨rfl, rfl, rfl⟩
        refine TA.next (fun W hO => hO) ?_
        refine TA.eff 6 rfl (by kernel_rfl) rfl (TL.buildSlice (xs := [.const (.string (⟨#[99, 97, 108, 108]⟩ : ByteArray)), .tmp 85, .tmp 88]) (vs := [.string (⟨#[99, 97, 108, 108]⟩ : ByteArray), .string y5515, .string y5517]) (cs := [.string (⟨#[99, 97, 108, 108]⟩ : ByteArray), .string y5515, .string y5517]) rfl rfl Tryd.underlying84 zs9 rfl rfl rfl rfl rfl rfl rfl rfl (fun b5519 => ?_))
        refine TA.next (fun W hO => hO.selT (Ls := [Blk b5 [.int .i64 a0.f0, .int .i64 a0.f1, .int .i64 a0.f2, .int .i64 a0.f3, .int .i64 a0.f4, .slice A1 a0.f5.length c2] 40]) [1] 2 rfl rfl rfl) ?_
        refine TA.take 7 rfl (by kernel_rfl) rfl (PQ.then_ (PQ.inB (PQ.then_ PQ.body))) rfl (Val.assign rfl) (fun W hO => hO.selT (Ls := [Blk b5 [.int .i64 a0.f0, .int .i64 a0.f1, .int .i64 a0.f2, .int .i64 a0.f3, .int .i64 a0.f4, .slice A1 a0.f5.length c2] 40]) [1] 2 rfl rfl rfl) ?_
        refine TA.done (by kernel_rfl) ?_
        refine TQ.then_ ?_
        refine TC.seq ?_
        refine TC.seq ?_
        refine TC.region ?_
        refine TL.cons (TO.val rfl rfl rfl (Val.fieldAddrB Tryd.underlying40 rfl fsz38 rfl rfl rfl) ?_)
        refine TL.cons (TO.val rfl rfl rfl (Val.loadB 1 agg38 rfl rfl rfl) ?_)
        refine TL.cons (TO.val rfl rfl rfl (Val.len Tryd.underlying38 rfl) ?_)
        refine TL.cons (TO.val rfl rfl rfl (Val.move rfl) ?_)
        refine TL.nil ?_
        refine TQ.then_ ?_
        refine TC.new (Els.nil Kd.string) ?_
        refine TC.new (El.of (k := Kd.string) (xv := (⟨#[99, 97, 108, 108]⟩ : ByteArray)) (cs := [.string (⟨#[99, 97, 108, 108]⟩ : ByteArray)]) (fun W B => rfl)) ?_
        refine TC.sel (Ls := [Els Kd.string [] [], El Kd.string (⟨#[99, 97, 108, 108]⟩ : ByteArray) [.string (⟨#[99, 97, 108, 108]⟩ : ByteArray)], Blk b5519 [.string (⟨#[99, 97, 108, 108]⟩ : ByteArray), .string y5515, .string y5517] 9, Blk b5 [.int .i64 a0.f0, .int .i64 a0.f1, .int .i64 a0.f2, .int .i64 a0.f3, .int .i64 a0.f4, .slice A1 a0.f5.length c2] 40]) [1, 0, 2, 3] 4 rfl rfl rfl ?_
        refine TC.two (ch := Els Kd.string [(⟨#[99, 97, 108, 108]⟩ : ByteArray)] [.string (⟨#[99, 97, 108, 108]⟩ : ByteArray)]) (Els.snoc Kd.string) ?_
        refine TC.new (El.of (k := Kd.string) (xv := y5515) (cs := [.string y5515]) (fun W B => rfl)) ?_
        refine TC.sel (Ls := [Els Kd.string [(⟨#[99, 97, 108, 108]⟩ : ByteArray)] [.string (⟨#[99, 97, 108, 108]⟩ : ByteArray)], El Kd.string y5515 [.string y5515], Blk b5519 [.string (⟨#[99, 97, 108, 108]⟩ : ByteArray), .string y5515, .string y5517] 9, Blk b5 [.int .i64 a0.f0, .int .i64 a0.f1, .int .i64 a0.f2, .int .i64 a0.f3, .int .i64 a0.f4, .slice A1 a0.f5.length c2] 40]) [1, 0, 2, 3] 4 rfl rfl rfl ?_
        refine TC.two (ch := Els Kd.string [(⟨#[99, 97, 108, 108]⟩ : ByteArray), y5515] [.string (⟨#[99, 97, 108, 108]⟩ : ByteArray), .string y5515]) (Els.snoc Kd.string) ?_
        refine TC.new (El.of (k := Kd.string) (xv := y5517) (cs := [.string y5517]) (fun W B => rfl)) ?_
        refine TC.sel (Ls := [Els Kd.string [(⟨#[99, 97, 108, 108]⟩ : ByteArray), y5515] [.string (⟨#[99, 97, 108, 108]⟩ : ByteArray), .string y5515], El Kd.string y5517 [.string y5517], Blk b5519 [.string (⟨#[99, 97, 108, 108]⟩ : ByteArray), .string y5515, .string y5517] 9, Blk b5 [.int .i64 a0.f0, .int .i64 a0.f1, .int .i64 a0.f2, .int .i64 a0.f3, .int .i64 a0.f4, .slice A1 a0.f5.length c2] 40]) [1, 0, 2, 3] 4 rfl rfl rfl ?_
        refine TC.two (ch := Els Kd.string [(⟨#[99, 97, 108, 108]⟩ : ByteArray), y5515, y5517] [.string (⟨#[99, 97, 108, 108]⟩ : ByteArray), .string y5515, .string y5517]) (Els.snoc Kd.string) ?_
        refine TC.sel (Ls := [Blk b5519 [.string (⟨#[99, 97, 108, 108]⟩ : ByteArray), .string y5515, .string y5517] 9, Els Kd.string [(⟨#[99, 97, 108, 108]⟩ : ByteArray), y5515, y5517] [.string (⟨#[99, 97, 108, 108]⟩ : ByteArray), .string y5515, .string y5517], Blk b5 [.int .i64 a0.f0, .int .i64 a0.f1, .int .i64 a0.f2, .int .i64 a0.f3, .int .i64 a0.f4, .slice A1 a0.f5.length c2] 40]) [1, 0, 2] 3 rfl rfl rfl ?_
        refine TC.two (ch := Row Kd.string 9 (.slice (some ⟨b5519, 0, none⟩) 3 3) ([(⟨#[99, 97, 108, 108]⟩ : ByteArray), y5515, y5517] : List ByteArray)) (Row.lit Kd.string rfl rfl) ?_
        obtain ⟨o5634, ho5634, ko5634⟩ := bind_no h
        clear h
        refine TC.tail (fun a W => ∃ (l5630 : (List ByteArray)) (A5631 : Option Addr) (c5632 : Nat), l5630 = o5634 ∧ Fr 119 a [(3, .slice A5631 l5630.length c5632)] ∧ Own G (Row Kd.string 9 (.slice A5631 l5630.length c5632) l5630 :: L) W) ?_ ?_
        ·
         rintro a W ⟨l5630, A5631, c5632, rfl, hF, hO⟩
         have h := ko5634
         clear ko5634 ho5634
         refine TQ.use ?_ hF hO
         clear hF hO
         refine TQ.then_ ?_
         refine TC.seq ?_
         refine TC.region ?_
         refine TL.cons (TO.val rfl rfl rfl (Val.move rfl) ?_)
         refine TL.cons (TO.inl (args := [.slice A5631 l5630.length c5632]) (e' := [(0, .slice A5631 l5630.length c5632)]) 5 rfl rfl hbd64 rfl rfl Tryd.func64 rfl Tryd.ntmps64 rfl rfl (Nat.le_of_ble_eq_true rfl) (fun a5669 hf5670 => ?_))
         refine TC.seq ?_
         refine TC.region ?_
         refine TL.cons (TO.val rfl rfl rfl (Val.assign rfl) ?_)
         refine TL.nil ?_
         refine TQ.then_ ?_
         refine TC.seq ?_
         refine TC.region ?_
         refine TL.cons (TO.val rfl rfl rfl (Val.move rfl) ?_)
         refine TK.share (fun G5679 e5680 hs5681 hb5682 => ?_)
         have rd5683 : Rd G5679 Kd.string A5631 l5630 := Rd.row hs5681
         have le5684 : l5630.length ≤ c5632 := Row.le hs5681
         obtain ⟨y5685, hy5686, h⟩ := bind_no h
         refine TL.cons (TL.callV (Lin := []) (args := [.slice A5631 l5630.length c5632, .string (⟨#[32]⟩ : ByteArray)]) rfl rfl rfl hbd84 rfl rfl (strings_Join.calls (a0 := l5630) (a1 := (⟨#[32]⟩ : ByteArray)) (Row.pl (k := Kd.string) hs5681) rd5683 le5684 hy5686) rfl ?_)
         rintro _ _ _ _ ⟨rfl, rfl, rfl⟩
         refine TL.cons (TO.val rfl rfl rfl (Val.assign rfl) ?_)
         refine TL.nil ?_
         refine TQ.then_ ?_
         refine TC.ret ?_
         refine TQ.fin (v := .string y5685) (.inl rfl) rfl Tryd.results64 (.tmp rfl .nil) rfl (After.mk hf5670 rfl ?_)
         refine TL.cons (TO.val rfl rfl rfl (Val.assign rfl) ?_)
         refine TL.nil ?_
         refine TQ.then_ ?_
         refine TC.ret ?_
         refine TQ.inBR ?_
         refine TQ.thenR ?_
         refine TQ.back hb5682 ?_
         obtain rfl := Option.some.inj h
         exact TQ.fin (.inl rfl) rfl Tryd.results67 (.tmp rfl .nil) rfl (FRel.mk (Ls := []) [] 1 (Gd.le.refl _) rfl rfl rfl ⟨rfl, rfl, rfl⟩)
        ·
         refine TC.block ?_
         intro a W hF hO
         have hS : ∃ (l5593 : (List ByteArray)) (x5597 : Int) (A5594 : Option Addr) (c5595 : Nat), code_opText.l0 a0 (a0.f5.length + 1) l5593 x5597 = some o5634 ∧ Fr 119 a [(3, .slice A5594 l5593.length c5595), (91, .slice A1 a0.f5.length c2), (92, .int .i64 (a0.f5.length : Int)), (93, .int .i64 x5597)] ∧ Own G (Row Kd.string 9 (.slice A5594 l5593.length c5595) l5593 :: L) W := by
          exact ⟨([(⟨#[99, 97, 108, 108]⟩ : ByteArray), y5515, y5517] : List ByteArray), 0, (some ⟨b5519, 0, none⟩), 3, ho5634, hF.sub ⟨rfl, rfl, rfl, rfl, trivial⟩, hO.selT (Ls := [Row Kd.string 9 (.slice (some ⟨b5519, 0, none⟩) ([(⟨#[99, 97, 108, 108]⟩ : ByteArray), y5515, y5517] : List ByteArray).length 3) ([(⟨#[99, 97, 108, 108]⟩ : ByteArray), y5515, y5517] : List ByteArray)]) [0] 2 rfl rfl rfl⟩
         clear hF hO ho5634 ko5634
         refine TC.loop (fun n5635 a W => ∃ (l5593 : (List ByteArray)) (x5597 : Int) (A5594 : Option Addr) (c5595 : Nat), code_opText.l0 a0 n5635 l5593 x5597 = some o5634 ∧ Fr 119 a [(3, .slice A5594 l5593.length c5595), (91, .slice A1 a0.f5.length c2), (92, .int .i64 (a0.f5.length : Int)), (93, .int .i64 x5597)] ∧ Own G (Row Kd.string 9 (.slice A5594 l5593.length c5595) l5593 :: L) W) ?_ ?_ hS
         ·
          rintro a W ⟨l5593, x5597, A5594, c5595, h, hF, hO⟩
          exact none_no h
         ·
          clear hS
          rintro n5635 a W ⟨l5593, x5597, A5594, c5595, h, hF, hO⟩
          rw [code_opText.l0] at h
          refine TC.use ?_ hF hO
          clear hF hO
          refine TC.seq ?_
          refine TC.region ?_
          refine TL.cons (TO.val rfl rfl rfl (Val.cmp rfl rfl run_lss) ?_)
          refine TL.nil ?_
          refine TQ.then_ ?_
          refine TC.seq ?_
          refine TC.cond_p rfl h (fun hc5688 h => ?_) (fun hc5688 h => ?_)
          ·
           refine TC.skip ?_
           refine TQ.then_ ?_
           refine TC.seq ?_
           refine TC.block ?_
           refine TC.seq ?_
           refine TC.region ?_
           obtain ⟨y5704, hx5705, h⟩ := bind_no h
           obtain ⟨ad5706, cs5712, hA5707, hi5708, hj5709, hcl5710, hK5711⟩ := Rd.at hr3 hx5705
           obtain rfl := RdK.int hK5711
           refine TL.cons (TO.val rfl rfl rfl (Val.indexAddr Tryd.underlying38 fsz3 rfl hA5707 rfl hi5708 hj5709) ?_)
           refine TL.cons (TO.val rfl rfl rfl (Val.loadS agg3 rfl (hcl5710 0 _ rfl)) ?_)
           refine TL.cons (TO.val rfl rfl rfl (Val.assign rfl) ?_)
           refine TL.nil ?_
           refine TQ.then_ ?_
           refine TC.region ?_
           refine TL.cons (TO.val rfl rfl rfl (Val.move rfl) ?_)
           refine TL.cons (TO.val rfl rfl rfl (Val.move rfl) ?_)
           obtain ⟨y5713, hy5714, h⟩ := bind_no h
           refine TL.cons (TL.callV (Lin := []) (args := [.int .i64 y5704]) rfl rfl rfl hbd86 rfl rfl (code_v.calls (a0 := y5704) ht hy5714) rfl ?_)
           rintro _ _ _ _ ⟨rfl, rfl, rfl⟩
           refine TL.cons (TL.buildSlice (xs := [.tmp 99]) (vs := [.string y5713]) (cs := [.string y5713]) rfl rfl Tryd.underlying84 zs9 rfl rfl rfl rfl rfl rfl rfl rfl (fun b5715 => ?_))
           refine TK.new (El.of (k := Kd.string) (xv := y5713) (cs := [.string y5713]) (fun W B => rfl)) ?_
           refine TK.sel (Ls := [Row Kd.string 9 (.slice A5594 l5593.length c5595) l5593, El Kd.string y5713 [.string y5713], Blk b5715 [.string y5713] 9]) [2, 0, 1] 3 rfl rfl rfl ?_
           obtain ⟨ha5716, h⟩ := ite_no h
           refine TL.cons (TL.append (xs := l5593) Kd.string rfl rfl Tryd.underlying84 inf9 rfl (Nat.le_of_ble_eq_true rfl) (Nat.le_of_ble_eq_true rfl) rfl rfl (by omega) (fun A5717 c5718 => ?_))
           refine TL.cons (TO.val rfl rfl rfl (Val.assign rfl) ?_)
           refine TL.nil ?_
           refine TQ.inB ?_
           refine TQ.then_ ?_
           refine TC.region ?_
           refine TL.cons (TO.val rfl rfl rfl (Val.cmp rfl rfl run_add) ?_)
           refine TL.cons (TO.val rfl rfl rfl (Val.move rfl) ?_)
           refine TL.nil ?_
           exact fun a W hF hO => ⟨(l5593 ++ [y5713]), IntKind.i64.wrap (x5597 + 1), A5717, c5718, h, hF.sub ⟨rfl, rfl, rfl, rfl, trivial⟩, hO.selT (Ls := [Row Kd.string 9 (.slice A5717 (l5593 ++ [y5713]).length c5718) (l5593 ++ [y5713])]) [0] 1 rfl rfl rfl⟩
          ·
           refine TC.exit ?_
           refine TQ.thenX ?_
           refine TQ.thenX ?_
           refine TQ.inBX ?_
           exact fun a W hF hO => ⟨l5593, A5594, c5595, Option.some.inj h, hF.sub ⟨rfl, trivial⟩, hO.selT (Ls := [Row Kd.string 9 (.slice A5594 l5593.length c5595) l5593]) [0] 1 rfl rfl rfl⟩
       ·
        refine TC.seq ?_
        refine TC.region ?_
        refine TL.cons (TO.val rfl rfl rfl (Val.cmp rfl rfl run_eql) ?_)
        refine TL.cons (TO.val rfl rfl rfl (Val.assign rfl) ?_)
        refine TL.nil ?_
        refine TQ.then_ ?_
        refine TC.cond_p rfl h (fun hc5767 h => ?_) (fun hc5767 h => ?_)
        ·
         refine TC.seq ?_
         refine TC.region ?_
         refine TL.cons (TO.val rfl rfl rfl (Val.fieldAddrB Tryd.underlying40 rfl fsz3 rfl rfl rfl) ?_)
         refine TL.cons (TO.val rfl rfl rfl (Val.loadB 0 agg3 rfl rfl rfl) ?_)
         obtain ⟨y5768, hy5769, h⟩ := bind_no h
         refine TL.cons (TL.callV (Lin := []) (args := [.int .i64 a0.f1]) rfl rfl rfl hbd86 rfl rfl (code_v.calls (a0 := a0.f1) ht hy5769) rfl ?_)
         rintro _ _ _ _ ⟨rfl, rfl, rfl⟩
         refine TL.cons (TL.buildSlice (xs := [.const (.string (⟨#[114, 101, 97, 100]⟩ : ByteArray)), .tmp 109]) (vs := [.string (⟨#[114, 101, 97, 100]⟩ : ByteArray), .string y5768]) (cs := [.string (⟨#[114, 101, 97, 100]⟩ : ByteArray), .string y5768]) rfl rfl Tryd.underlying84 zs9 rfl rfl rfl rfl rfl rfl rfl rfl (fun b5770 => ?_))
         refine TL.cons (TO.inl (args := [.slice (some ⟨b5770, 0, none⟩) 2 2]) (e' := [(0, .slice (some ⟨b5770, 0, none⟩) 2 2)]) 5 rfl rfl hbd64 rfl rfl Tryd.func64 rfl Tryd.ntmps64 rfl rfl (Nat.le_of_ble_eq_true rfl) (fun a5771 hf5772 => ?_))
         refine TC.seq ?_
         refine TC.region ?_
         refine TL.cons (TO.val rfl rfl rfl (Val.assign rfl) ?_)
         refine TL.nil ?_
         refine TQ.then_ ?_
         refine TC.seq ?_
         refine TC.region ?_
         refine TL.cons (TO.val rfl rfl rfl (Val.move rfl) ?_)
         refine TK.new (Els.nil Kd.string) ?_
         refine TK.new (El.of (k := Kd.string) (xv := (⟨#[114, 101, 97, 100]⟩ : ByteArray)) (cs := [.string (⟨#[114, 101, 97, 100]⟩ : ByteArray)]) (fun W B => rfl)) ?_
         refine TK.sel (Ls := [Els Kd.string [] [], El Kd.string (⟨#[114, 101, 97, 100]⟩ : ByteArray) [.string (⟨#[114, 101, 97, 100]⟩ : ByteArray)], Blk b5770 [.string (⟨#[114, 101, 97, 100]⟩ : ByteArray), .string y5768] 9, Blk b5 [.int .i64 a0.f0, .int .i64 a0.f1, .int .i64 a0.f2, .int .i64 a0.f3, .int .i64 a0.f4, .slice A1 a0.f5.length c2] 40]) [1, 0, 2, 3] 4 rfl rfl rfl ?_
         refine TK.two (ch := Els Kd.string [(⟨#[114, 101, 97, 100]⟩ : ByteArray)] [.string (⟨#[114, 101, 97, 100]⟩ : ByteArray)]) (Els.snoc Kd.string) ?_
         refine TK.new (El.of (k := Kd.string) (xv := y5768) (cs := [.string y5768]) (fun W B => rfl)) ?_
         refine TK.sel (Ls := [Els Kd.string [(⟨#[114, 101, 97, 100]⟩ : ByteArray)] [.string (⟨#[114, 101, 97, 100]⟩ : ByteArray)], El Kd.string y5768 [.string y5768], Blk b5770 [.string (⟨#[114, 101, 97, 100]⟩ : ByteArray), .string y5768] 9, Blk b5 [.int .i64 a0.f0, .int .i64 a0.f1, .int .i64 a0.f2, .int .i64 a0.f3, .int .i64 a0.f4, .slice A1 a0.f5.length c2] 40]) [1, 0, 2, 3] 4 rfl rfl rfl ?_
         refine TK.two (ch := Els Kd.string [(⟨#[114, 101, 97, 100]⟩ : ByteArray), y5768] [.string (⟨#[114, 101, 97, 100]⟩ : ByteArray), .string y5768]) (Els.snoc Kd.string) ?_
         refine TK.sel (Ls := [Blk b5770 [.string (⟨#[114, 101, 97, 100]⟩ : ByteArray), .string y5768] 9, Els Kd.string [(⟨#[114, 101, 97, 100]⟩ : ByteArray), y5768] [.string (⟨#[114, 101, 97, 100]⟩ : ByteArray), .string y5768], Blk b5 [.int .i64 a0.f0, .int .i64 a0.f1, .int .i64 a0.f2, .int .i64 a0.f3, .int .i64 a0.f4, .slice A1 a0.f5.length c2] 40]) [1, 0, 2] 3 rfl rfl rfl ?_
         refine TK.two (ch := Row Kd.string 9 (.slice (some ⟨b5770, 0, none⟩) 2 2) ([(⟨#[114, 101, 97, 100]⟩ : ByteArray), y5768] : List ByteArray)) (Row.lit Kd.string rfl rfl) ?_
         refine TK.share (fun G5783 e5784 hs5785 hb5786 => ?_)
         have rd5787 : Rd G5783 Kd.string (some ⟨b5770, 0, none⟩) ([(⟨#[114, 101, 97, 100]⟩ : ByteArray), y5768] : List ByteArray) := Rd.row hs5785
         have le5788 : ([(⟨#[114, 101, 97, 100]⟩ : ByteArray), y5768] : List ByteArray).length ≤ 2 := Row.le hs5785
         obtain ⟨y5789, hy5790, h⟩ := bind_no h
         refine TL.cons (TL.callV (Lin := []) (args := [.slice (some ⟨b5770, 0, none⟩) 2 2, .string (⟨#[32]⟩ : ByteArray)]) rfl rfl rfl hbd84 rfl rfl (strings_Join.calls (a0 := ([(⟨#[114, 101, 97, 100]⟩ : ByteArray), y5768] : List ByteArray)) (a1 := (⟨#[32]⟩ : ByteArray)) (Row.pl (k := Kd.string) hs5785) rd5787 le5788 hy5790) rfl ?_)
         rintro _ _ _ _ ⟨rfl, rfl, rfl⟩
         refine TL.cons (TO.val rfl rfl rfl (Val.assign rfl) ?_)
         refine TL.nil ?_
         refine TQ.then_ ?_
         refine TC.ret ?_
         refine TQ.fin (v := .string y5789) (.inl rfl) rfl Tryd.results64 (.tmp rfl .nil) rfl (After.mk hf5772 rfl ?_)
         refine TL.cons (TO.val rfl rfl rfl (Val.assign rfl) ?_)
         refine TL.nil ?_
         refine TQ.then_ ?_
         refine TC.ret ?_
         refine TQ.inBR ?_
         refine TQ.thenR ?_
         refine TQ.back hb5786 ?_
         obtain rfl := Option.some.inj h
         exact TQ.fin (.inl rfl) rfl Tryd.results67 (.tmp rfl .nil) rfl (FRel.mk (Ls := []) [] 2 (Gd.le.refl _) rfl rfl rfl ⟨rfl, rfl, rfl⟩)
        ·
         refine TC.seq ?_
         refine TC.region ?_
         refine TL.cons (TO.val rfl rfl rfl (Val.cmp rfl rfl run_eql) ?_)
         refine TL.cons (TO.val rfl rfl rfl (Val.assign rfl) ?_)
         refine TL.nil ?_
         refine TQ.then_ ?_
         refine TC.cond_p rfl h (fun hc5815 h => ?_) (fun hc5815 h => ?_)
         ·
          refine TC.seq ?_
          refine TC.region ?_
          refine TL.cons (TO.val rfl rfl rfl (Val.fieldAddrB Tryd.underlying40 rfl fsz3 rfl rfl rfl) ?_)
          refine TL.cons (TO.val rfl rfl rfl (Val.loadB 0 agg3 rfl rfl rfl) ?_)
          obtain ⟨y5816, hy5817, h⟩ := bind_no h
          refine TL.cons (TL.callV (Lin := []) (args := [.int .i64 a0.f2]) rfl rfl rfl hbd86 rfl rfl (code_v.calls (a0 := a0.f2) ht hy5817) rfl ?_)
          rintro _ _ _ _ ⟨rfl, rfl, rfl⟩
          refine TL.cons (TL.buildSlice (xs := [.const (.string (⟨#[112, 114, 105, 110, 116]⟩ : ByteArray)), .tmp 116]) (vs := [.string (⟨#[112, 114, 105, 110, 116]⟩ : ByteArray), .string y5816]) (cs := [.string (⟨#[112, 114, 105, 110, 116]⟩ : ByteArray), .string y5816]) rfl rfl Tryd.underlying84 zs9 rfl rfl rfl rfl rfl rfl rfl rfl (fun b5818 => ?_))
          refine TL.cons (TO.inl (args := [.slice (some ⟨b5818, 0, none⟩) 2 2]) (e' := [(0, .slice (some ⟨b5818, 0, none⟩) 2 2)]) 5 rfl rfl hbd64 rfl rfl Tryd.func64 rfl Tryd.ntmps64 rfl rfl (Nat.le_of_ble_eq_true rfl) (fun a5819 hf5820 => ?_))
          refine TC.seq ?_
          refine TC.region ?_
          refine TL.cons (TO.val rfl rfl rfl (Val.assign rfl) ?_)
          refine TL.nil ?_
          refine TQ.then_ ?_
          refine TC.seq ?_
          refine TC.region ?_
          refine TL.cons (TO.val rfl rfl rfl (Val.move rfl) ?_)
          refine TK.new (Els.nil Kd.string) ?_
          refine TK.new (El.of (k := Kd.string) (xv := (⟨#[112, 114, 105, 110, 116]⟩ : ByteArray)) (cs := [.string (⟨#[112, 114, 105, 110, 116]⟩ : ByteArray)]) (fun W B => rfl)) ?_
          refine TK.sel (Ls := [Els Kd.string [] [], El Kd.string (⟨#[112, 114, 105, 110, 116]⟩ : ByteArray) [.string (⟨#[112, 114, 105, 110, 116]⟩ : ByteArray)], Blk b5818 [.string (⟨#[112, 114, 105, 110, 116]⟩ : ByteArray), .string y5816] 9, Blk b5 [.int .i64 a0.f0, .int .i64 a0.f1, .int .i64 a0.f2, .int .i64 a0.f3, .int .i64 a0.f4, .slice A1 a0.f5.length c2] 40]) [1, 0, 2, 3] 4 rfl rfl rfl ?_
          refine TK.two (ch := Els Kd.string [(⟨#[112, 114, 105, 110, 116]⟩ : ByteArray)] [.string (⟨#[112, 114, 105, 110, 116]⟩ : ByteArray)]) (Els.snoc Kd.string) ?_
          refine TK.new (El.of (k := Kd.string) (xv := y5816) (cs := [.string y5816]) (fun W B => rfl)) ?_
          refine TK.sel (Ls := [Els Kd.string [(⟨#[112, 114, 105, 110, 116]⟩ : ByteArray)] [.string (⟨#[112, 114, 105, 110, 116]⟩ : ByteArray)], El Kd.string y5816 [.string y5816], Blk b5818 [.string (⟨#[112, 114, 105, 110, 116]⟩ : ByteArray), .string y5816] 9, Blk b5 [.int .i64 a0.f0, .int .i64 a0.f1, .int .i64 a0.f2, .int .i64 a0.f3, .int .i64 a0.f4, .slice A1 a0.f5.length c2] 40]) [1, 0, 2, 3] 4 rfl rfl rfl ?_
          refine TK.two (ch := Els Kd.string [(⟨#[112, 114, 105, 110, 116]⟩ : ByteArray), y5816] [.string (⟨#[112, 114, 105, 110, 116]⟩ : ByteArray), .string y5816]) (Els.snoc Kd.string) ?_
          refine TK.sel (Ls := [Blk b5818 [.string (⟨#[112, 114, 105, 110, 116]⟩ : ByteArray), .string y5816] 9, Els Kd.string [(⟨#[112, 114, 105, 110, 116]⟩ : ByteArray), y5816] [.string (⟨#[112, 114, 105, 110, 116]⟩ : ByteArray), .string y5816], Blk b5 [.int .i64 a0.f0, .int .i64 a0.f1, .int .i64 a0.f2, .int .i64 a0.f3, .int .i64 a0.f4, .slice A1 a0.f5.length c2] 40]) [1, 0, 2] 3 rfl rfl rfl ?_
          refine TK.two (ch := Row Kd.string 9 (.slice (some ⟨b5818, 0, none⟩) 2 2) ([(⟨#[112, 114, 105, 110, 116]⟩ : ByteArray), y5816] : List ByteArray)) (Row.lit Kd.string rfl rfl) ?_
          refine TK.share (fun G5831 e5832 hs5833 hb5834 => ?_)
          have rd5835 : Rd G5831 Kd.string (some ⟨b5818, 0, none⟩) ([(⟨#[112, 114, 105, 110, 116]⟩ : ByteArray), y5816] : List ByteArray) := Rd.row hs5833
          have le5836 : ([(⟨#[112, 114, 105, 110, 116]⟩ : ByteArray), y5816] : List ByteArray).length ≤ 2 := Row.le hs5833
          obtain ⟨y5837, hy5838, h⟩ := bind_no h
          refine TL.cons (TL.callV (Lin := []) (args := [.slice (some ⟨b5818, 0, none⟩) 2 2, .string (⟨#[32]⟩ : ByteArray)]) rfl rfl rfl hbd84 rfl rfl (strings_Join.calls (a0 := ([(⟨#[112, 114, 105, 110, 116]⟩ : ByteArray), y5816] : List ByteArray)) (a1 := (⟨#[32]⟩ : ByteArray)) (Row.pl (k := Kd.string) hs5833) rd5835 le5836 hy5838) rfl ?_)
          rintro _ _ _ _ ⟨rfl, rfl, rfl⟩
          refine TL.cons (TO.val rfl rfl rfl (Val.assign rfl) ?_)
          refine TL.nil ?_
          refine TQ.then_ ?_
          refine TC.ret ?_
          refine TQ.fin (v := .string y5837) (.inl rfl) rfl Tryd.results64 (.tmp rfl .nil) rfl (After.mk hf5820 rfl ?_)
          refine TL.cons (TO.val rfl rfl rfl (Val.assign rfl) ?_)
          refine TL.nil ?_
          refine TQ.then_ ?_
          refine TC.ret ?_
          refine TQ.inBR ?_
          refine TQ.thenR ?_
          refine TQ.back hb5834 ?_
          obtain rfl := Option.some.inj h
          exact TQ.fin (.inl rfl) rfl Tryd.results67 (.tmp rfl .nil) rfl (FRel.mk (Ls := []) [] 2 (Gd.le.refl _) rfl rfl rfl ⟨rfl, rfl, rfl⟩)
         ·
          refine TC.skip ?_
          refine TQ.inB ?_
          refine TQ.then_ ?_
          refine TC.seq ?_
          refine TC.region ?_
          refine TL.cons (TO.val rfl rfl rfl (Val.assign rfl) ?_)
          refine TL.nil ?_
          refine TQ.then_ ?_
          refine TC.ret ?_
          obtain rfl := Option.some.inj h
          exact TQ.fin (.inl rfl) rfl Tryd.results67 (.tmp rfl .nil) rfl (FRel.mk (Ls := []) [] 1 (Gd.le.refl _) rfl rfl rfl ⟨rfl, rfl, rfl⟩)
end Go.Proofs.YtmacdhkfgoahcaaDoor.Sy
set_option linter.unusedVariables false
set_option linter.unusedSimpArgs false
set_option maxRecDepth 100000
set_option maxHeartbeats 4000000
namespace Go.Proofs.YtmacdhkfgoahcaaDoor.Sy
open Go Go.RowKit Go.Proofs.YtmacdhkfgoahcaaDoorW.PrintWords 
def code_termText.f (a0 : S35) : Option ByteArray := (if a0.f0 = 1 then (code_b.f a0.f2).bind fun (y559 : ByteArray) => (strings_Join.f ([(⟨#[106, 117, 109, 112]⟩ : ByteArray), y559] : List ByteArray) (⟨#[32]⟩ : ByteArray)).bind fun (y580 : ByteArray) => some y580 else (if a0.f0 = 2 then (code_v.f a0.f1).bind fun (y713 : ByteArray) => (code_b.f a0.f2).bind fun (y715 : ByteArray) => (code_b.f a0.f3).bind fun (y717 : ByteArray) => (strings_Join.f ([(⟨#[98, 114, 97, 110, 99, 104]⟩ : ByteArray), y713, y715, y717] : List ByteArray) (⟨#[32]⟩ : ByteArray)).bind fun (y738 : ByteArray) => some y738 else (if a0.f0 = 3 then (code_v.f a0.f1).bind fun (y789 : ByteArray) => (strings_Join.f ([(⟨#[114, 101, 116, 117, 114, 110]⟩ : ByteArray), y789] : List ByteArray) (⟨#[32]⟩ : ByteArray)).bind fun (y810 : ByteArray) => some y810 else (if a0.f0 = 4 then (code_n.f a0.f2).bind fun (y837 : ByteArray) => (strings_Join.f ([(⟨#[102, 97, 117, 108, 116]⟩ : ByteArray), y837] : List ByteArray) (⟨#[32]⟩ : ByteArray)).bind fun (y858 : ByteArray) => some y858 else some (⟨#[63]⟩ : ByteArray)))))
def code_termText.post (G : Gd)  (r : ByteArray) (v : Value) (G' : Gd) (Lr : List Ch) : Prop := G = G' ∧ v = .string r ∧ Lr = []
theorem code_termText.calls {G : Gd} {r : ByteArray} {a0 : S35} (ht : Tab G) (h : code_termText.f a0 = some r) : Fn Tryd.prog 68 G [] [.agg #[.int .i64 a0.f0, .int .i64 a0.f1, .int .i64 a0.f2, .int .i64 a0.f3]] (code_termText.post G  r) := by
 refine Fn.intro (e := [(0, .agg #[.int .i64 a0.f0, .int .i64 a0.f1, .int .i64 a0.f2, .int .i64 a0.f3])]) 39 Tryd.func68 rfl Tryd.ntmps68 rfl rfl (Nat.le_of_ble_eq_true rfl) (fun L => ?_)
 unfold code_termText.f at h
 refine TC.seq ?_
 refine TC.region ?_
 refine TL.cons (TL.box (cs := [.int .i64 a0.f0, .int .i64 a0.f1, .int .i64 a0.f2, .int .i64 a0.f3]) rfl rfl rfl rfl (fun b1 => ?_))
 refine TL.cons (TO.val rfl rfl rfl (Val.assign rfl) ?_)
 refine TL.nil ?_
 refine TQ.then_ ?_
 refine TC.seq ?_
 refine TC.seq ?_
 refine TC.region ?_
 refine TL.cons (TO.val rfl rfl rfl (Val.fieldAddrB Tryd.underlying35 rfl fsz3 rfl rfl rfl) ?_)
 refine TL.cons (TO.val rfl rfl rfl (Val.loadB 0 agg3 rfl rfl rfl) ?_)
 refine TL.nil ?_
 refine TQ.then_ ?_
 refine TC.block ?_
 refine TC.seq ?_
 refine TC.region ?_
 refine TL.cons (TO.val rfl rfl rfl (Val.cmp rfl rfl run_eql) ?_)
 refine TL.cons (TO.val rfl rfl rfl (Val.assign rfl) ?_)
 refine TL.nil ?_
 refine TQ.then_ ?_
 refine TC.cond_p rfl h (fun hc558 h => ?_) (fun hc558 h => ?_)
 ·
  refine TC.seq ?_
  refine TC.region ?_
  refine TL.cons (TO.val rfl rfl rfl (Val.fieldAddrB Tryd.underlying35 rfl fsz3 rfl rfl rfl) ?_)
  refine TL.cons (TO.val rfl rfl rfl (Val.loadB 0 agg3 rfl rfl rfl) ?_)
  obtain ⟨y559, hy560, h⟩ := bind_no h
  refine TL.cons (TL.callV (Lin := []) (args := [.int .i64 a0.f2]) rfl rfl rfl hbd66 rfl rfl (code_b.calls (a0 := a0.f2) ht hy560) rfl ?_)
  rintro _ _ _ _ ⟨rfl, rfl, rfl⟩
  refine TL.cons (TL.buildSlice (xs := [.const (.string (⟨#[106, 117, 109, 112]⟩ : ByteArray)), .tmp 9]) (vs := [.string (⟨#[106, 117, 109, 112]⟩ : ByteArray), .string y559]) (cs := [.string (⟨#[106, 117, 109, 112]⟩ : ByteArray), .string y559]) rfl rfl Tryd.underlying84 zs9 rfl rfl rfl rfl rfl rfl rfl rfl (fun b561 => ?_))
  refine TL.cons (TO.inl (args := [.slice (some ⟨b561, 0, none⟩) 2 2]) (e' := [(0, .slice (some ⟨b561, 0, none⟩) 2 2)]) 5 rfl rfl hbd64 rfl rfl Tryd.func64 rfl Tryd.ntmps64 rfl rfl (Nat.le_of_ble_eq_true rfl) (fun a562 hf563 => ?_))
  refine TC.seq ?_
  refine TC.region ?_
  refine TL.cons (TO.val rfl rfl rfl (Val.assign rfl) ?_)
  refine TL.nil ?_
  refine TQ.then_ ?_
  refine TC.seq ?_
  refine TC.region ?_
  refine TL.cons (TO.val rfl rfl rfl (Val.move rfl) ?_)
  refine TK.new (Els.nil Kd.string) ?_
  refine TK.new (El.of (k := Kd.string) (xv := (⟨#[106, 117, 109, 112]⟩ : ByteArray)) (cs := [.string (⟨#[106, 117, 109, 112]⟩ : ByteArray)]) (fun W B => rfl)) ?_
  refine TK.sel (Ls := [Els Kd.string [] [], El Kd.string (⟨#[106, 117, 109, 112]⟩ : ByteArray) [.string (⟨#[106, 117, 109, 112]⟩ : ByteArray)], Blk b561 [.string (⟨#[106, 117, 109, 112]⟩ : ByteArray), .string y559] 9, Blk b1 [.int .i64 a0.f0, .int .i64 a0.f1, .int .i64 a0.f2, .int .i64 a0.f3] 35]) [1, 0, 2, 3] 4 rfl rfl rfl ?_
  refine TK.two (ch := Els Kd.string [(⟨#[106, 117, 109, 112]⟩ : ByteArray)] [.string (⟨#[106, 117, 109, 112]⟩ : ByteArray)]) (Els.snoc Kd.string) ?_
  refine TK.new (El.of (k := Kd.string) (xv := y559) (cs := [.string y559]) (fun W B => rfl)) ?_
  refine TK.sel (Ls := [Els Kd.string [(⟨#[106, 117, 109, 112]⟩ : ByteArray)] [.string (⟨#[106, 117, 109, 112]⟩ : ByteArray)], El Kd.string y559 [.string y559], Blk b561 [.string (⟨#[106, 117, 109, 112]⟩ : ByteArray), .string y559] 9, Blk b1 [.int .i64 a0.f0, .int .i64 a0.f1, .int .i64 a0.f2, .int .i64 a0.f3] 35]) [1, 0, 2, 3] 4 rfl rfl rfl ?_
  refine TK.two (ch := Els Kd.string [(⟨#[106, 117, 109, 112]⟩ : ByteArray), y559] [.string (⟨#[106, 117, 109, 112]⟩ : ByteArray), .string y559]) (Els.snoc Kd.string) ?_
  refine TK.sel (Ls := [Blk b561 [.string (⟨#[106, 117, 109, 112]⟩ : ByteArray), .string y559] 9, Els Kd.string [(⟨#[106, 117, 109, 112]⟩ : ByteArray), y559] [.string (⟨#[106, 117, 109, 112]⟩ : ByteArray), .string y559], Blk b1 [.int .i64 a0.f0, .int .i64 a0.f1, .int .i64 a0.f2, .int .i64 a0.f3] 35]) [1, 0, 2] 3 rfl rfl rfl ?_
  refine TK.two (ch := Row Kd.string 9 (.slice (some ⟨b561, 0, none⟩) 2 2) ([(⟨#[106, 117, 109, 112]⟩ : ByteArray), y559] : List ByteArray)) (Row.lit Kd.string rfl rfl) ?_
  refine TK.share (fun G574 e575 hs576 hb577 => ?_)
  have rd578 : Rd G574 Kd.string (some ⟨b561, 0, none⟩) ([(⟨#[106, 117, 109, 112]⟩ : ByteArray), y559] : List ByteArray) := Rd.row hs576
  have le579 : ([(⟨#[106, 117, 109, 112]⟩ : ByteArray), y559] : List ByteArray).length ≤ 2 := Row.le hs576
  obtain ⟨y580, hy581, h⟩ := bind_no h
  refine TL.cons (TL.callV (Lin := []) (args := [.slice (some ⟨b561, 0, none⟩) 2 2, .string (⟨#[32]⟩ : ByteArray)]) rfl rfl rfl hbd84 rfl rfl (strings_Join.calls (a0 := ([(⟨#[106, 117, 109, 112]⟩ : ByteArray), y559] : List ByteArray)) (a1 := (⟨#[32]⟩ : ByteArray)) (Row.pl (k := Kd.string) hs576) rd578 le579 hy581) rfl ?_)
  rintro _ _ _ _ ⟨rfl, rfl, rfl⟩
  refine TL.cons (TO.val rfl rfl rfl (Val.assign rfl) ?_)
  refine TL.nil ?_
  refine TQ.then_ ?_
  refine TC.ret ?_
  refine TQ.fin (v := .string y580) (.inl rfl) rfl Tryd.results64 (.tmp rfl .nil) rfl (After.mk hf563 rfl ?_)
  refine TL.cons (TO.val rfl rfl rfl (Val.assign rfl) ?_)
  refine TL.nil ?_
  refine TQ.then_ ?_
  refine TC.ret ?_
  refine TQ.inBR ?_
  refine TQ.thenR ?_
  refine TQ.back hb577 ?_
  obtain rfl := Option.some.inj h
  exact TQ.fin (.inl rfl) rfl Tryd.results68 (.tmp rfl .nil) rfl (FRel.mk (Ls := []) [] 2 (Gd.le.refl _) rfl rfl rfl ⟨rfl, rfl, rfl⟩)
 ·
  refine TC.seq ?_
  refine TC.region ?_
  refine TL.cons (TO.val rfl rfl rfl (Val.cmp rfl rfl run_eql) ?_)
  refine TL.cons (TO.val rfl rfl rfl (Val.assign rfl) ?_)
  refine TL.nil ?_
  refine TQ.then_ ?_
  refine TC.cond_p rfl h (fun hc685 h => ?_) (fun hc685 h => ?_)
  ·
   refine TC.seq ?_
   refine TC.regionAny [] [0, 1, 3, 4, 6, 7, 11] mixed (by kernel_rfl) ?_
   refine TA.take 0 rfl (by kernel_rfl) rfl (PQ.then_ (PQ.inB (PQ.then_ PQ.body))) rfl (Val.fieldAddrB Tryd.underlying35 rfl fsz3 rfl rfl rfl) (fun W hO => hO) ?_
   refine TA.take 1 rfl (by kernel_rfl) rfl (PQ.then_ (PQ.inB (PQ.then_ PQ.body))) rfl (Val.loadB 0 agg3 rfl rfl rfl) (fun W hO => hO) ?_
   refine TA.take 3 rfl (by kernel_rfl) rfl (PQ.then_ (PQ.inB (PQ.then_ PQ.body))) rfl (Val.fieldAddrB Tryd.underlying35 rfl fsz3 rfl rfl rfl) (fun W hO => hO) ?_
   refine TA.take 4 rfl (by kernel_rfl) rfl (PQ.then_ (PQ.inB (PQ.then_ PQ.body))) rfl (Val.loadB 0 agg3 rfl rfl rfl) (fun W hO => hO) ?_
   refine TA.take 6 rfl (by kernel_rfl) rfl (PQ.then_ (PQ.inB (PQ.then_ PQ.body))) rfl (Val.fieldAddrB Tryd.underlying35 rfl fsz3 rfl rfl rfl) (fun W hO => hO) ?_
   refine TA.take 7 rfl (by kernel_rfl) rfl (PQ.then_ (PQ.inB (PQ.then_ PQ.body))) rfl (Val.loadB 0 agg3 rfl rfl rfl) (fun W hO => hO) ?_
   obtain ⟨y713, hy714, h⟩ := bind_no h
   refine TA.eff 2 rfl (by kernel_rfl) rfl (TL.callV (Lin := []) (args := [.int .i64 a0.f1]) rfl rfl rfl hbd86 rfl rfl (code_v.calls (a0 := a0.f1) ht hy714) rfl ?_)
   rintro _ _ _ _ ⟨rfl, rfl, rfl⟩
   refine TA.next (fun W hO => hO) ?_
   obtain ⟨y715, hy716, h⟩ := bind_no h
   refine TA.eff 5 rfl (by kernel_rfl) rfl (TL.callV (Lin := []) (args := [.int .i64 a0.f2]) rfl rfl rfl hbd66 rfl rfl (code_b.calls (a0 := a0.f2) ht hy716) rfl ?_)
   rintro _ _ _ _ ⟨rfl, rfl, rfl⟩
   refine TA.next (fun W hO => hO) ?_
   obtain ⟨y717, hy718, h⟩ := bind_no h
   refine TA.eff 8 rfl (by kernel_rfl) rfl (TL.callV (Lin := []) (args := [.int .i64 a0.f3]) rfl rfl rfl hbd66 rfl rfl (code_b.calls (a0 := a0.f3) ht hy718) rfl ?_)
   rintro _ _ _ _ ⟨rfl, rfl, rfl⟩
   refine TA.next (fun W hO => hO) ?_
   refine TA.eff 9 rfl (by kernel_rfl) rfl (TL.buildSlice (xs := [.const (.string (⟨#[98, 114, 97, 110, 99, 104]⟩ : ByteArray)), .tmp 16, .tmp 19, .tmp 22]) (vs := [.string (⟨#[98, 114, 97, 110, 99, 104]⟩ : ByteArray), .string y713, .string y715, .string y717]) (cs := [.string (⟨#[98, 114, 97, 110, 99, 104]⟩ : ByteArray), .string y713, .string y715, .string y717]) rfl rfl Tryd.underlying84 zs9 rfl rfl rfl rfl rfl rfl rfl rfl (fun b719 => ?_))
   refine TA.next (fun W hO => hO.selT (Ls := [Blk b1 [.int .i64 a0.f0, .int .i64 a0.f1, .int .i64 a0.f2, .int .i64 a0.f3] 35]) [1] 2 rfl rfl rfl) ?_
   refine TA.eff 10 rfl (by kernel_rfl) rfl (TO.inl (args := [.slice (some ⟨b719, 0, none⟩) 4 4]) (e' := [(0, .slice (some ⟨b719, 0, none⟩) 4 4)]) 5 rfl rfl hbd64 rfl rfl Tryd.func64 rfl Tryd.ntmps64 rfl rfl (Nat.le_of_ble_eq_true rfl) (fun a720 hf721 => ?_))
   refine TC.seq ?_
   refine TC.region ?_
   refine TL.cons (TO.val rfl rfl rfl (Val.assign rfl) ?_)
   refine TL.nil ?_
   refine TQ.then_ ?_
   refine TC.seq ?_
   refine TC.region ?_
   refine TL.cons (TO.val rfl rfl rfl (Val.move rfl) ?_)
   refine TK.new (Els.nil Kd.string) ?_
   refine TK.new (El.of (k := Kd.string) (xv := (⟨#[98, 114, 97, 110, 99, 104]⟩ : ByteArray)) (cs := [.string (⟨#[98, 114, 97, 110, 99, 104]⟩ : ByteArray)]) (fun W B => rfl)) ?_
   refine TK.sel (Ls := [Els Kd.string [] [], El Kd.string (⟨#[98, 114, 97, 110, 99, 104]⟩ : ByteArray) [.string (⟨#[98, 114, 97, 110, 99, 104]⟩ : ByteArray)], Blk b719 [.string (⟨#[98, 114, 97, 110, 99, 104]⟩ : ByteArray), .string y713, .string y715, .string y717] 9, Blk b1 [.int .i64 a0.f0, .int .i64 a0.f1, .int .i64 a0.f2, .int .i64 a0.f3] 35]) [1, 0, 2, 3] 4 rfl rfl rfl ?_
   refine TK.two (ch := Els Kd.string [(⟨#[98, 114, 97, 110, 99, 104]⟩ : ByteArray)] [.string (⟨#[98, 114, 97, 110, 99, 104]⟩ : ByteArray)]) (Els.snoc Kd.string) ?_
   refine TK.new (El.of (k := Kd.string) (xv := y713) (cs := [.string y713]) (fun W B => rfl)) ?_
   refine TK.sel (Ls := [Els Kd.string [(⟨#[98, 114, 97, 110, 99, 104]⟩ : ByteArray)] [.string (⟨#[98, 114, 97, 110, 99, 104]⟩ : ByteArray)], El Kd.string y713 [.string y713], Blk b719 [.string (⟨#[98, 114, 97, 110, 99, 104]⟩ : ByteArray), .string y713, .string y715, .string y717] 9, Blk b1 [.int .i64 a0.f0, .int .i64 a0.f1, .int .i64 a0.f2, .int .i64 a0.f3] 35]) [1, 0, 2, 3] 4 rfl rfl rfl ?_
   refine TK.two (ch := Els Kd.string [(⟨#[98, 114, 97, 110, 99, 104]⟩ : ByteArray), y713] [.string (⟨#[98, 114, 97, 110, 99, 104]⟩ : ByteArray), .string y713]) (Els.snoc Kd.string) ?_
   refine TK.new (El.of (k := Kd.string) (xv := y715) (cs := [.string y715]) (fun W B => rfl)) ?_
   refine TK.sel (Ls := [Els Kd.string [(⟨#[98, 114, 97, 110, 99, 104]⟩ : ByteArray), y713] [.string (⟨#[98, 114, 97, 110, 99, 104]⟩ : ByteArray), .string y713], El Kd.string y715 [.string y715], Blk b719 [.string (⟨#[98, 114, 97, 110, 99, 104]⟩ : ByteArray), .string y713, .string y715, .string y717] 9, Blk b1 [.int .i64 a0.f0, .int .i64 a0.f1, .int .i64 a0.f2, .int .i64 a0.f3] 35]) [1, 0, 2, 3] 4 rfl rfl rfl ?_
   refine TK.two (ch := Els Kd.string [(⟨#[98, 114, 97, 110, 99, 104]⟩ : ByteArray), y713, y715] [.string (⟨#[98, 114, 97, 110, 99, 104]⟩ : ByteArray), .string y713, .string y715]) (Els.snoc Kd.string) ?_
   refine TK.new (El.of (k := Kd.string) (xv := y717) (cs := [.string y717]) (fun W B => rfl)) ?_
   refine TK.sel (Ls := [Els Kd.string [(⟨#[98, 114, 97, 110, 99, 104]⟩ : ByteArray), y713, y715] [.string (⟨#[98, 114, 97, 110, 99, 104]⟩ : ByteArray), .string y713, .string y715], El Kd.string y717 [.string y717], Blk b719 [.string (⟨#[98, 114, 97, 110, 99, 104]⟩ : ByteArray), .string y713, .string y715, .string y717] 9, Blk b1 [.int .i64 a0.f0, .int .i64 a0.f1, .int .i64 a0.f2, .int .i64 a0.f3] 35]) [1, 0, 2, 3] 4 rfl rfl rfl ?_
   refine TK.two (ch := Els Kd.string [(⟨#[98, 114, 97, 110, 99, 104]⟩ : ByteArray), y713, y715, y717] [.string (⟨#[98, 114, 97, 110, 99, 104]⟩ : ByteArray), .string y713, .string y715, .string y717]) (Els.snoc Kd.string) ?_
   refine TK.sel (Ls := [Blk b719 [.string (⟨#[98, 114, 97, 110, 99, 104]⟩ : ByteArray), .string y713, .string y715, .string y717] 9, Els Kd.string [(⟨#[98, 114, 97, 110, 99, 104]⟩ : ByteArray), y713, y715, y717] [.string (⟨#[98, 114, 97, 110, 99, 104]⟩ : ByteArray), .string y713, .string y715, .string y717], Blk b1 [.int .i64 a0.f0, .int .i64 a0.f1, .int .i64 a0.f2, .int .i64 a0.f3] 35]) [1, 0, 2] 3 rfl rfl rfl ?_
   refine TK.two (ch := Row Kd.string 9 (.slice (some ⟨b719, 0, none⟩) 4 4) ([(⟨#[98, 114, 97, 110, 99, 104]⟩ : ByteArray), y713, y715, y717] : List ByteArray)) (Row.lit Kd.string rfl rfl) ?_
   refine TK.share (fun G732 e733 hs734 hb735 => ?_)
   have rd736 : Rd G732 Kd.string (some ⟨b719, 0, none⟩) ([(⟨#[98, 114, 97, 110, 99, 104]⟩ : ByteArray), y713, y715, y717] : List ByteArray) := Rd.row hs734
   have le737 : ([(⟨#[98, 114, 97, 110, 99, 104]⟩ : ByteArray), y713, y715, y717] : List ByteArray).length ≤ 4 := Row.le hs734
   obtain ⟨y738, hy739, h⟩ := bind_no h
   refine TL.cons (TL.callV (Lin := []) (args := [.slice (some ⟨b719, 0, none⟩) 4 4, .string (⟨#[32]⟩ : ByteArray)]) rfl rfl rfl hbd84 rfl rfl (strings_Join.calls (a0 := ([(⟨#[98, 114, 97, 110, 99, 104]⟩ : ByteArray), y713, y715, y717] : List ByteArray)) (a1 := (⟨#[32]⟩ : ByteArray)) (Row.pl (k := Kd.string) hs734) rd736 le737 hy739) rfl ?_)
   rintro _ _ _ _ ⟨rfl, rfl, rfl⟩
   refine TL.cons (TO.val rfl rfl rfl (Val.assign rfl) ?_)
   refine TL.nil ?_
   refine TQ.then_ ?_
   refine TC.ret ?_
   refine TQ.fin (v := .string y738) (.inl rfl) rfl Tryd.results64 (.tmp rfl .nil) rfl (After.mk hf721 rfl ?_)
   refine TA.next (fun W hO => (hb735 _ _ hO).selT (Ls := [Blk b1 [.int .i64 a0.f0, .int .i64 a0.f1, .int .i64 a0.f2, .int .i64 a0.f3] 35]) [1] 2 rfl rfl rfl) ?_
   refine TA.take 11 rfl (by kernel_rfl) rfl (PQ.then_ (PQ.inB (PQ.then_ PQ.body))) rfl (Val.assign rfl) (fun W hO => (hb735 _ _ hO).selT (Ls := [Blk b1 [.int .i64 a0.f0, .int .i64 a0.f1, .int .i64 a0.f2, .int .i64 a0.f3] 35]) [1] 2 rfl rfl rfl) ?_
   refine TA.done (by kernel_rfl) ?_
   refine TQ.then_ ?_
   refine TC.ret ?_
   refine TQ.inBR ?_
   refine TQ.thenR ?_
   refine TQ.back hb735 ?_
   obtain rfl := Option.some.inj h
   exact TQ.fin (.inl rfl) rfl Tryd.results68 (.tmp rfl .nil) rfl (FRel.mk (Ls := []) [] 2 (Gd.le.refl _) rfl rfl rfl ⟨rfl, rfl, rfl⟩)
  ·
   refine TC.seq ?_
   refine TC.region ?_
   refine TL.cons (TO.val rfl rfl rfl (Val.cmp rfl rfl run_eql) ?_)
   refine TL.cons (TO.val rfl rfl rfl (Val.assign rfl) ?_)
   refine TL.nil ?_
   refine TQ.then_ ?_
   refine TC.cond_p rfl h (fun hc788 h => ?_) (fun hc788 h => ?_)
   ·
    refine TC.seq ?_
    refine TC.region ?_
    refine TL.cons (TO.val rfl rfl rfl (Val.fieldAddrB Tryd.underlying35 rfl fsz3 rfl rfl rfl) ?_)
    refine TL.cons (TO.val rfl rfl rfl (Val.loadB 0 agg3 rfl rfl rfl) ?_)
    obtain ⟨y789, hy790, h⟩ := bind_no h
    refine TL.cons (TL.callV (Lin := []) (args := [.int .i64 a0.f1]) rfl rfl rfl hbd86 rfl rfl (code_v.calls (a0 := a0.f1) ht hy790) rfl ?_)
    rintro _ _ _ _ ⟨rfl, rfl, rfl⟩
    refine TL.cons (TL.buildSlice (xs := [.const (.string (⟨#[114, 101, 116, 117, 114, 110]⟩ : ByteArray)), .tmp 29]) (vs := [.string (⟨#[114, 101, 116, 117, 114, 110]⟩ : ByteArray), .string y789]) (cs := [.string (⟨#[114, 101, 116, 117, 114, 110]⟩ : ByteArray), .string y789]) rfl rfl Tryd.underlying84 zs9 rfl rfl rfl rfl rfl rfl rfl rfl (fun b791 => ?_))
    refine TL.cons (TO.inl (args := [.slice (some ⟨b791, 0, none⟩) 2 2]) (e' := [(0, .slice (some ⟨b791, 0, none⟩) 2 2)]) 5 rfl rfl hbd64 rfl rfl Tryd.func64 rfl Tryd.ntmps64 rfl rfl (Nat.le_of_ble_eq_true rfl) (fun a792 hf793 => ?_))
    refine TC.seq ?_
    refine TC.region ?_
    refine TL.cons (TO.val rfl rfl rfl (Val.assign rfl) ?_)
    refine TL.nil ?_
    refine TQ.then_ ?_
    refine TC.seq ?_
    refine TC.region ?_
    refine TL.cons (TO.val rfl rfl rfl (Val.move rfl) ?_)
    refine TK.new (Els.nil Kd.string) ?_
    refine TK.new (El.of (k := Kd.string) (xv := (⟨#[114, 101, 116, 117, 114, 110]⟩ : ByteArray)) (cs := [.string (⟨#[114, 101, 116, 117, 114, 110]⟩ : ByteArray)]) (fun W B => rfl)) ?_
    refine TK.sel (Ls := [Els Kd.string [] [], El Kd.string (⟨#[114, 101, 116, 117, 114, 110]⟩ : ByteArray) [.string (⟨#[114, 101, 116, 117, 114, 110]⟩ : ByteArray)], Blk b791 [.string (⟨#[114, 101, 116, 117, 114, 110]⟩ : ByteArray), .string y789] 9, Blk b1 [.int .i64 a0.f0, .int .i64 a0.f1, .int .i64 a0.f2, .int .i64 a0.f3] 35]) [1, 0, 2, 3] 4 rfl rfl rfl ?_
    refine TK.two (ch := Els Kd.string [(⟨#[114, 101, 116, 117, 114, 110]⟩ : ByteArray)] [.string (⟨#[114, 101, 116, 117, 114, 110]⟩ : ByteArray)]) (Els.snoc Kd.string) ?_
    refine TK.new (El.of (k := Kd.string) (xv := y789) (cs := [.string y789]) (fun W B => rfl)) ?_
    refine TK.sel (Ls := [Els Kd.string [(⟨#[114, 101, 116, 117, 114, 110]⟩ : ByteArray)] [.string (⟨#[114, 101, 116, 117, 114, 110]⟩ : ByteArray)], El Kd.string y789 [.string y789], Blk b791 [.string (⟨#[114, 101, 116, 117, 114, 110]⟩ : ByteArray), .string y789] 9, Blk b1 [.int .i64 a0.f0, .int .i64 a0.f1, .int .i64 a0.f2, .int .i64 a0.f3] 35]) [1, 0, 2, 3] 4 rfl rfl rfl ?_
    refine TK.two (ch := Els Kd.string [(⟨#[114, 101, 116, 117, 114, 110]⟩ : ByteArray), y789] [.string (⟨#[114, 101, 116, 117, 114, 110]⟩ : ByteArray), .string y789]) (Els.snoc Kd.string) ?_
    refine TK.sel (Ls := [Blk b791 [.string (⟨#[114, 101, 116, 117, 114, 110]⟩ : ByteArray), .string y789] 9, Els Kd.string [(⟨#[114, 101, 116, 117, 114, 110]⟩ : ByteArray), y789] [.string (⟨#[114, 101, 116, 117, 114, 110]⟩ : ByteArray), .string y789], Blk b1 [.int .i64 a0.f0, .int .i64 a0.f1, .int .i64 a0.f2, .int .i64 a0.f3] 35]) [1, 0, 2] 3 rfl rfl rfl ?_
    refine TK.two (ch := Row Kd.string 9 (.slice (some ⟨b791, 0, none⟩) 2 2) ([(⟨#[114, 101, 116, 117, 114, 110]⟩ : ByteArray), y789] : List ByteArray)) (Row.lit Kd.string rfl rfl) ?_
    refine TK.share (fun G804 e805 hs806 hb807 => ?_)
    have rd808 : Rd G804 Kd.string (some ⟨b791, 0, none⟩) ([(⟨#[114, 101, 116, 117, 114, 110]⟩ : ByteArray), y789] : List ByteArray) := Rd.row hs806
    have le809 : ([(⟨#[114, 101, 116, 117, 114, 110]⟩ : ByteArray), y789] : List ByteArray).length ≤ 2 := Row.le hs806
    obtain ⟨y810, hy811, h⟩ := bind_no h
    refine TL.cons (TL.callV (Lin := []) (args := [.slice (some ⟨b791, 0, none⟩) 2 2, .string (⟨#[32]⟩ : ByteArray)]) rfl rfl rfl hbd84 rfl rfl (strings_Join.calls (a0 := ([(⟨#[114, 101, 116, 117, 114, 110]⟩ : ByteArray), y789] : List ByteArray)) (a1 := (⟨#[32]⟩ : ByteArray)) (Row.pl (k := Kd.string) hs806) rd808 le809 hy811) rfl ?_)
    rintro _ _ _ _ ⟨rfl, rfl, rfl⟩
    refine TL.cons (TO.val rfl rfl rfl (Val.assign rfl) ?_)
    refine TL.nil ?_
    refine TQ.then_ ?_
    refine TC.ret ?_
    refine TQ.fin (v := .string y810) (.inl rfl) rfl Tryd.results64 (.tmp rfl .nil) rfl (After.mk hf793 rfl ?_)
    refine TL.cons (TO.val rfl rfl rfl (Val.assign rfl) ?_)
    refine TL.nil ?_
    refine TQ.then_ ?_
    refine TC.ret ?_
    refine TQ.inBR ?_
    refine TQ.thenR ?_
    refine TQ.back hb807 ?_
    obtain rfl := Option.some.inj h
    exact TQ.fin (.inl rfl) rfl Tryd.results68 (.tmp rfl .nil) rfl (FRel.mk (Ls := []) [] 2 (Gd.le.refl _) rfl rfl rfl ⟨rfl, rfl, rfl⟩)
   ·
    refine TC.seq ?_
    refine TC.region ?_
    refine TL.cons (TO.val rfl rfl rfl (Val.cmp rfl rfl run_eql) ?_)
    refine TL.cons (TO.val rfl rfl rfl (Val.assign rfl) ?_)
    refine TL.nil ?_
    refine TQ.then_ ?_
    refine TC.cond_p rfl h (fun hc836 h => ?_) (fun hc836 h => ?_)
    ·
     refine TC.seq ?_
     refine TC.region ?_
     refine TL.cons (TO.val rfl rfl rfl (Val.fieldAddrB Tryd.underlying35 rfl fsz3 rfl rfl rfl) ?_)
     refine TL.cons (TO.val rfl rfl rfl (Val.loadB 0 agg3 rfl rfl rfl) ?_)
     obtain ⟨y837, hy838, h⟩ := bind_no h
     refine TL.cons (TL.callV (Lin := []) (args := [.int .i64 a0.f2]) rfl rfl rfl hbd65 rfl rfl (code_n.calls (a0 := a0.f2) ht hy838) rfl ?_)
     rintro _ _ _ _ ⟨rfl, rfl, rfl⟩
     refine TL.cons (TL.buildSlice (xs := [.const (.string (⟨#[102, 97, 117, 108, 116]⟩ : ByteArray)), .tmp 36]) (vs := [.string (⟨#[102, 97, 117, 108, 116]⟩ : ByteArray), .string y837]) (cs := [.string (⟨#[102, 97, 117, 108, 116]⟩ : ByteArray), .string y837]) rfl rfl Tryd.underlying84 zs9 rfl rfl rfl rfl rfl rfl rfl rfl (fun b839 => ?_))
     refine TL.cons (TO.inl (args := [.slice (some ⟨b839, 0, none⟩) 2 2]) (e' := [(0, .slice (some ⟨b839, 0, none⟩) 2 2)]) 5 rfl rfl hbd64 rfl rfl Tryd.func64 rfl Tryd.ntmps64 rfl rfl (Nat.le_of_ble_eq_true rfl) (fun a840 hf841 => ?_))
     refine TC.seq ?_
     refine TC.region ?_
     refine TL.cons (TO.val rfl rfl rfl (Val.assign rfl) ?_)
     refine TL.nil ?_
     refine TQ.then_ ?_
     refine TC.seq ?_
     refine TC.region ?_
     refine TL.cons (TO.val rfl rfl rfl (Val.move rfl) ?_)
     refine TK.new (Els.nil Kd.string) ?_
     refine TK.new (El.of (k := Kd.string) (xv := (⟨#[102, 97, 117, 108, 116]⟩ : ByteArray)) (cs := [.string (⟨#[102, 97, 117, 108, 116]⟩ : ByteArray)]) (fun W B => rfl)) ?_
     refine TK.sel (Ls := [Els Kd.string [] [], El Kd.string (⟨#[102, 97, 117, 108, 116]⟩ : ByteArray) [.string (⟨#[102, 97, 117, 108, 116]⟩ : ByteArray)], Blk b839 [.string (⟨#[102, 97, 117, 108, 116]⟩ : ByteArray), .string y837] 9, Blk b1 [.int .i64 a0.f0, .int .i64 a0.f1, .int .i64 a0.f2, .int .i64 a0.f3] 35]) [1, 0, 2, 3] 4 rfl rfl rfl ?_
     refine TK.two (ch := Els Kd.string [(⟨#[102, 97, 117, 108, 116]⟩ : ByteArray)] [.string (⟨#[102, 97, 117, 108, 116]⟩ : ByteArray)]) (Els.snoc Kd.string) ?_
     refine TK.new (El.of (k := Kd.string) (xv := y837) (cs := [.string y837]) (fun W B => rfl)) ?_
     refine TK.sel (Ls := [Els Kd.string [(⟨#[102, 97, 117, 108, 116]⟩ : ByteArray)] [.string (⟨#[102, 97, 117, 108, 116]⟩ : ByteArray)], El Kd.string y837 [.string y837], Blk b839 [.string (⟨#[102, 97, 117, 108, 116]⟩ : ByteArray), .string y837] 9, Blk b1 [.int .i64 a0.f0, .int .i64 a0.f1, .int .i64 a0.f2, .int .i64 a0.f3] 35]) [1, 0, 2, 3] 4 rfl rfl rfl ?_
     refine TK.two (ch := Els Kd.string [(⟨#[102, 97, 117, 108, 116]⟩ : ByteArray), y837] [.string (⟨#[102, 97, 117, 108, 116]⟩ : ByteArray), .string y837]) (Els.snoc Kd.string) ?_
     refine TK.sel (Ls := [Blk b839 [.string (⟨#[102, 97, 117, 108, 116]⟩ : ByteArray), .string y837] 9, Els Kd.string [(⟨#[102, 97, 117, 108, 116]⟩ : ByteArray), y837] [.string (⟨#[102, 97, 117, 108, 116]⟩ : ByteArray), .string y837], Blk b1 [.int .i64 a0.f0, .int .i64 a0.f1, .int .i64 a0.f2, .int .i64 a0.f3] 35]) [1, 0, 2] 3 rfl rfl rfl ?_
     refine TK.two (ch := Row Kd.string 9 (.slice (some ⟨b839, 0, none⟩) 2 2) ([(⟨#[102, 97, 117, 108, 116]⟩ : ByteArray), y837] : List ByteArray)) (Row.lit Kd.string rfl rfl) ?_
     refine TK.share (fun G852 e853 hs854 hb855 => ?_)
     have rd856 : Rd G852 Kd.string (some ⟨b839, 0, none⟩) ([(⟨#[102, 97, 117, 108, 116]⟩ : ByteArray), y837] : List ByteArray) := Rd.row hs854
     have le857 : ([(⟨#[102, 97, 117, 108, 116]⟩ : ByteArray), y837] : List ByteArray).length ≤ 2 := Row.le hs854
     obtain ⟨y858, hy859, h⟩ := bind_no h
     refine TL.cons (TL.callV (Lin := []) (args := [.slice (some ⟨b839, 0, none⟩) 2 2, .string (⟨#[32]⟩ : ByteArray)]) rfl rfl rfl hbd84 rfl rfl (strings_Join.calls (a0 := ([(⟨#[102, 97, 117, 108, 116]⟩ : ByteArray), y837] : List ByteArray)) (a1 := (⟨#[32]⟩ : ByteArray)) (Row.pl (k := Kd.string) hs854) rd856 le857 hy859) rfl ?_)
     rintro _ _ _ _ ⟨rfl, rfl, rfl⟩
     refine TL.cons (TO.val rfl rfl rfl (Val.assign rfl) ?_)
     refine TL.nil ?_
     refine TQ.then_ ?_
     refine TC.ret ?_
     refine TQ.fin (v := .string y858) (.inl rfl) rfl Tryd.results64 (.tmp rfl .nil) rfl (After.mk hf841 rfl ?_)
     refine TL.cons (TO.val rfl rfl rfl (Val.assign rfl) ?_)
     refine TL.nil ?_
     refine TQ.then_ ?_
     refine TC.ret ?_
     refine TQ.inBR ?_
     refine TQ.thenR ?_
     refine TQ.back hb855 ?_
     obtain rfl := Option.some.inj h
     exact TQ.fin (.inl rfl) rfl Tryd.results68 (.tmp rfl .nil) rfl (FRel.mk (Ls := []) [] 2 (Gd.le.refl _) rfl rfl rfl ⟨rfl, rfl, rfl⟩)
    ·
     refine TC.skip ?_
     refine TQ.inB ?_
     refine TQ.then_ ?_
     refine TC.seq ?_
     refine TC.region ?_
     refine TL.cons (TO.val rfl rfl rfl (Val.assign rfl) ?_)
     refine TL.nil ?_
     refine TQ.then_ ?_
     refine TC.ret ?_
     obtain rfl := Option.some.inj h
     exact TQ.fin (.inl rfl) rfl Tryd.results68 (.tmp rfl .nil) rfl (FRel.mk (Ls := []) [] 1 (Gd.le.refl _) rfl rfl rfl ⟨rfl, rfl, rfl⟩)
end Go.Proofs.YtmacdhkfgoahcaaDoor.Sy
set_option linter.unusedVariables false
set_option linter.unusedSimpArgs false
set_option maxRecDepth 100000
set_option maxHeartbeats 4000000
namespace Go.Proofs.YtmacdhkfgoahcaaDoor.Sy
open Go Go.RowKit Go.Proofs.YtmacdhkfgoahcaaDoorW.PrintWords 
def code_Text.l1 (y3631 : S37) : Nat → Int → ByteArray → Option (ByteArray)
 | 0, _, _ => none
 | n4091 + 1, x3957, x3958 => (if x3957 < (y3631.f0.length : Int) then (at? y3631.f0 x3957).bind fun y4338 => (code_opText.f y4338).bind fun (y4352 : ByteArray) => (if (⟨#[32, 32]⟩ : ByteArray).size + y4352.size ≤ 9223372036854775807 then (strings_Join.f ([(cat (⟨#[32, 32]⟩ : ByteArray) y4352)] : List ByteArray) (⟨#[32]⟩ : ByteArray)).bind fun (y4398 : ByteArray) => (if y4398.size + (⟨#[10]⟩ : ByteArray).size ≤ 9223372036854775807 then (if x3958.size + (cat y4398 (⟨#[10]⟩ : ByteArray)).size ≤ 140737488355328 then code_Text.l1 y3631 n4091 (IntKind.i64.wrap (x3957 + 1)) (cat x3958 (cat y4398 (⟨#[10]⟩ : ByteArray))) else none) else none) else none) else some x3958)
def code_Text.l0 (a0 : S27) : Nat → Int → ByteArray → Option (ByteArray)
 | 0, _, _ => none
 | n2375 + 1, x1600, x1601 => (if x1600 < (a0.f1.length : Int) then (at? a0.f1 x1600).bind fun y3631 => (code_b.f x1600).bind fun (y3645 : ByteArray) => (if y3645.size + (⟨#[58]⟩ : ByteArray).size ≤ 9223372036854775807 then (strings_Join.f ([(cat y3645 (⟨#[58]⟩ : ByteArray))] : List ByteArray) (⟨#[32]⟩ : ByteArray)).bind fun (y3691 : ByteArray) => (if y3691.size + (⟨#[10]⟩ : ByteArray).size ≤ 9223372036854775807 then (if x1601.size + (cat y3691 (⟨#[10]⟩ : ByteArray)).size ≤ 140737488355328 then (code_Text.l1 y3631 (y3631.f0.length + 1) 0 (cat x1601 (cat y3691 (⟨#[10]⟩ : ByteArray)))).bind fun (x4089 : ByteArray) => (code_termText.f y3631.f1).bind fun (y4222 : ByteArray) => (if (⟨#[32, 32]⟩ : ByteArray).size + y4222.size ≤ 9223372036854775807 then (strings_Join.f ([(cat (⟨#[32, 32]⟩ : ByteArray) y4222)] : List ByteArray) (⟨#[32]⟩ : ByteArray)).bind fun (y4268 : ByteArray) => (if y4268.size + (⟨#[10]⟩ : ByteArray).size ≤ 9223372036854775807 then (if x4089.size + (cat y4268 (⟨#[10]⟩ : ByteArray)).size ≤ 140737488355328 then code_Text.l0 a0 n2375 (IntKind.i64.wrap (x1600 + 1)) (cat x4089 (cat y4268 (⟨#[10]⟩ : ByteArray))) else none) else none) else none) else none) else none) else none) else some x1601)
def code_Text.f (a0 : S27) : Option ByteArray := (code_n.f a0.f0).bind fun (y7 : ByteArray) => (strings_Join.f ([(⟨#[112, 97, 114, 97, 109, 115]⟩ : ByteArray), y7] : List ByteArray) (⟨#[32]⟩ : ByteArray)).bind fun (y52 : ByteArray) => (if y52.size + (⟨#[10]⟩ : ByteArray).size ≤ 9223372036854775807 then (if (⟨#[]⟩ : ByteArray).size + (cat y52 (⟨#[10]⟩ : ByteArray)).size ≤ 140737488355328 then (code_Text.l0 a0 (a0.f1.length + 1) 0 (cat (⟨#[]⟩ : ByteArray) (cat y52 (⟨#[10]⟩ : ByteArray)))).bind fun (x2373 : ByteArray) => some x2373 else none) else none)
def code_Text.post (G : Gd)  (r : ByteArray) (v : Value) (G' : Gd) (Lr : List Ch) : Prop := G = G' ∧ v = .string r ∧ Lr = []
theorem code_Text.calls {G : Gd} {r : ByteArray} {a0 : S27} {A1 : Option Addr} {c2 : Nat} (ht : Tab G) (hr3 : Rd G k37 A1 a0.f1) (hl4 : a0.f1.length ≤ c2) (h : code_Text.f a0 = some r) : Fn Tryd.prog 34 G [] [.agg #[.int .i64 a0.f0, .slice A1 a0.f1.length c2]] (code_Text.post G  r) := by
 refine Fn.intro (e := [(0, .agg #[.int .i64 a0.f0, .slice A1 a0.f1.length c2])]) 53 Tryd.func34 rfl Tryd.ntmps34 rfl rfl (Nat.le_of_ble_eq_true rfl) (fun L => ?_)
 unfold code_Text.f at h
 refine TC.seq ?_
 refine TC.region ?_
 refine TL.cons (TL.box (cs := [.int .i64 a0.f0, .slice A1 a0.f1.length c2]) rfl rfl rfl rfl (fun b5 => ?_))
 refine TL.cons (TO.val rfl rfl rfl (Val.assign rfl) ?_)
 refine TL.nil ?_
 refine TQ.then_ ?_
 refine TC.seq ?_
 refine TC.region ?_
 refine TL.cons (TL.alloc (cs := [.pointer none, .slice none 0 0]) rfl rfl zr83 rfl (fun b6 => ?_))
 refine TK.chg (ch := Bld 83 5 b6 (⟨#[]⟩ : ByteArray)) Bld.new ?_
 refine TL.nil ?_
 refine TQ.then_ ?_
 refine TC.seq ?_
 refine TC.region ?_
 refine TL.cons (TO.val rfl rfl rfl (Val.makeFunc (xs := []) (ys := [.pointer (some ⟨b6, 0, none⟩)]) rfl rfl) ?_)
 refine TL.cons (TO.val rfl rfl rfl (Val.assign rfl) ?_)
 refine TL.nil ?_
 refine TQ.then_ ?_
 refine TC.seq ?_
 refine TC.region ?_
 refine TL.cons (TO.val rfl rfl rfl (Val.move rfl) ?_)
 refine TL.cons (TO.val rfl rfl rfl (Val.fieldAddrB Tryd.underlying27 rfl fsz3 rfl rfl rfl) ?_)
 refine TL.cons (TO.val rfl rfl rfl (Val.loadB 1 agg3 rfl rfl rfl) ?_)
 obtain ⟨y7, hy8, h⟩ := bind_no h
 refine TL.cons (TL.callV (Lin := []) (args := [.int .i64 a0.f0]) rfl rfl rfl hbd65 rfl rfl (code_n.calls (a0 := a0.f0) ht hy8) rfl ?_)
 rintro _ _ _ _ ⟨rfl, rfl, rfl⟩
 refine TL.cons (TL.buildSlice (xs := [.const (.string (⟨#[112, 97, 114, 97, 109, 115]⟩ : ByteArray)), .tmp 13]) (vs := [.string (⟨#[112, 97, 114, 97, 109, 115]⟩ : ByteArray), .string y7]) (cs := [.string (⟨#[112, 97, 114, 97, 109, 115]⟩ : ByteArray), .string y7]) rfl rfl Tryd.underlying84 zs9 rfl rfl rfl rfl rfl rfl rfl rfl (fun b9 => ?_))
 refine TL.cons (TO.inl (args := [.slice (some ⟨b9, 0, none⟩) 2 2, .pointer (some ⟨b6, 0, none⟩)]) (e' := [(0, .slice (some ⟨b9, 0, none⟩) 2 2), (1, .pointer (some ⟨b6, 0, none⟩))]) 7 rfl rfl hbd62 rfl rfl Tryd.func62 rfl Tryd.ntmps62 rfl rfl (Nat.le_of_ble_eq_true rfl) (fun a10 hf11 => ?_))
 refine TC.region ?_
 refine TL.cons (TO.val rfl rfl rfl (Val.move rfl) ?_)
 refine TL.cons (TO.inl (args := [.slice (some ⟨b9, 0, none⟩) 2 2]) (e' := [(0, .slice (some ⟨b9, 0, none⟩) 2 2)]) 5 rfl rfl hbd64 rfl rfl Tryd.func64 rfl Tryd.ntmps64 rfl rfl (Nat.le_of_ble_eq_true rfl) (fun a34 hf35 => ?_))
 refine TC.seq ?_
 refine TC.region ?_
 refine TL.cons (TO.val rfl rfl rfl (Val.assign rfl) ?_)
 refine TL.nil ?_
 refine TQ.then_ ?_
 refine TC.seq ?_
 refine TC.region ?_
 refine TL.cons (TO.val rfl rfl rfl (Val.move rfl) ?_)
 refine TK.new (Els.nil Kd.string) ?_
 refine TK.new (El.of (k := Kd.string) (xv := (⟨#[112, 97, 114, 97, 109, 115]⟩ : ByteArray)) (cs := [.string (⟨#[112, 97, 114, 97, 109, 115]⟩ : ByteArray)]) (fun W B => rfl)) ?_
 refine TK.sel (Ls := [Els Kd.string [] [], El Kd.string (⟨#[112, 97, 114, 97, 109, 115]⟩ : ByteArray) [.string (⟨#[112, 97, 114, 97, 109, 115]⟩ : ByteArray)], Blk b9 [.string (⟨#[112, 97, 114, 97, 109, 115]⟩ : ByteArray), .string y7] 9, Bld 83 5 b6 (⟨#[]⟩ : ByteArray), Blk b5 [.int .i64 a0.f0, .slice A1 a0.f1.length c2] 27]) [1, 0, 2, 3, 4] 5 rfl rfl rfl ?_
 refine TK.two (ch := Els Kd.string [(⟨#[112, 97, 114, 97, 109, 115]⟩ : ByteArray)] [.string (⟨#[112, 97, 114, 97, 109, 115]⟩ : ByteArray)]) (Els.snoc Kd.string) ?_
 refine TK.new (El.of (k := Kd.string) (xv := y7) (cs := [.string y7]) (fun W B => rfl)) ?_
 refine TK.sel (Ls := [Els Kd.string [(⟨#[112, 97, 114, 97, 109, 115]⟩ : ByteArray)] [.string (⟨#[112, 97, 114, 97, 109, 115]⟩ : ByteArray)], El Kd.string y7 [.string y7], Blk b9 [.string (⟨#[112, 97, 114, 97, 109, 115]⟩ : ByteArray), .string y7] 9, Bld 83 5 b6 (⟨#[]⟩ : ByteArray), Blk b5 [.int .i64 a0.f0, .slice A1 a0.f1.length c2] 27]) [1, 0, 2, 3, 4] 5 rfl rfl rfl ?_
 refine TK.two (ch := Els Kd.string [(⟨#[112, 97, 114, 97, 109, 115]⟩ : ByteArray), y7] [.string (⟨#[112, 97, 114, 97, 109, 115]⟩ : ByteArray), .string y7]) (Els.snoc Kd.string) ?_
 refine TK.sel (Ls := [Blk b9 [.string (⟨#[112, 97, 114, 97, 109, 115]⟩ : ByteArray), .string y7] 9, Els Kd.string [(⟨#[112, 97, 114, 97, 109, 115]⟩ : ByteArray), y7] [.string (⟨#[112, 97, 114, 97, 109, 115]⟩ : ByteArray), .string y7], Bld 83 5 b6 (⟨#[]⟩ : ByteArray), Blk b5 [.int .i64 a0.f0, .slice A1 a0.f1.length c2] 27]) [1, 0, 2, 3] 4 rfl rfl rfl ?_
 refine TK.two (ch := Row Kd.string 9 (.slice (some ⟨b9, 0, none⟩) 2 2) ([(⟨#[112, 97, 114, 97, 109, 115]⟩ : ByteArray), y7] : List ByteArray)) (Row.lit Kd.string rfl rfl) ?_
 refine TK.share (fun G46 e47 hs48 hb49 => ?_)
 have rd50 : Rd G46 Kd.string (some ⟨b9, 0, none⟩) ([(⟨#[112, 97, 114, 97, 109, 115]⟩ : ByteArray), y7] : List ByteArray) := Rd.row hs48
 have le51 : ([(⟨#[112, 97, 114, 97, 109, 115]⟩ : ByteArray), y7] : List ByteArray).length ≤ 2 := Row.le hs48
 obtain ⟨y52, hy53, h⟩ := bind_no h
 refine TL.cons (TL.callV (Lin := []) (args := [.slice (some ⟨b9, 0, none⟩) 2 2, .string (⟨#[32]⟩ : ByteArray)]) rfl rfl rfl hbd84 rfl rfl (strings_Join.calls (a0 := ([(⟨#[112, 97, 114, 97, 109, 115]⟩ : ByteArray), y7] : List ByteArray)) (a1 := (⟨#[32]⟩ : ByteArray)) (Row.pl (k := Kd.string) hs48) rd50 le51 hy53) rfl ?_)
 rintro _ _ _ _ ⟨rfl, rfl, rfl⟩
 refine TL.cons (TO.val rfl rfl rfl (Val.assign rfl) ?_)
 refine TL.nil ?_
 refine TQ.then_ ?_
 refine TC.ret ?_
 refine TQ.fin (v := .string y52) (.inl rfl) rfl Tryd.results64 (.tmp rfl .nil) rfl (After.mk hf35 rfl ?_)
 obtain ⟨hz54, h⟩ := ite_no h
 refine TL.cons (TO.val rfl rfl rfl (Val.addS rfl rfl hz54) ?_)
 obtain ⟨hl55, h⟩ := ite_no h
 refine TL.cons (TL.callV (Lin := [Bld 83 5 b6 (⟨#[]⟩ : ByteArray)]) (args := [.pointer (some ⟨b6, 0, none⟩), .string (cat y52 (⟨#[10]⟩ : ByteArray))]) rfl rfl rfl hbd63 rfl rfl (builder_write hl55) rfl ?_)
 rintro _ _ _ _ ⟨rfl, rfl, rfl⟩
 refine TL.nil ?_
 refine TQ.fin (v := .tuple #[]) (.inr rfl) rfl Tryd.results62 .nil rfl (After.mk hf11 rfl ?_)
 refine TL.nil ?_
 refine TQ.then_ ?_
 refine TC.seq ?_
 refine TC.seq ?_
 refine TC.region ?_
 refine TL.cons (TO.val rfl rfl rfl (Val.fieldAddrB Tryd.underlying27 rfl fsz25 rfl rfl rfl) ?_)
 refine TL.cons (TO.val rfl rfl rfl (Val.loadB 1 agg25 rfl rfl rfl) ?_)
 refine TL.cons (TO.val rfl rfl rfl (Val.len Tryd.underlying25 rfl) ?_)
 refine TL.cons (TO.val rfl rfl rfl (Val.move rfl) ?_)
 refine TL.nil ?_
 refine TQ.then_ ?_
 refine TC.back hb49 ?_
 obtain ⟨o2374, ho2374, ko2374⟩ := bind_no h
 clear h
 refine TC.tail (fun a W => ∃ (x2373 : ByteArray), x2373 = o2374 ∧ Fr 53 a [(3, .pointer (some ⟨b6, 0, none⟩))] ∧ Own G (Bld 83 5 b6 x2373 :: L) W) ?_ ?_
 ·
  rintro a W ⟨x2373, rfl, hF, hO⟩
  have h := ko2374
  clear ko2374 ho2374
  refine TQ.use ?_ hF hO
  clear hF hO
  refine TQ.then_ ?_
  refine TC.seq ?_
  refine TC.region ?_
  refine TL.cons (TL.callV (Lin := [Bld 83 5 b6 x2373]) (args := [.pointer (some ⟨b6, 0, none⟩)]) rfl rfl rfl hbd69 rfl rfl builder_string rfl ?_)
  rintro _ _ _ _ ⟨rfl, rfl, rfl⟩
  refine TL.cons (TO.val rfl rfl rfl (Val.assign rfl) ?_)
  refine TL.nil ?_
  refine TQ.then_ ?_
  refine TC.ret ?_
  obtain rfl := Option.some.inj h
  exact TQ.fin (.inl rfl) rfl Tryd.results34 (.tmp rfl .nil) rfl (FRel.mk (Ls := []) [] 0 (Gd.le.refl _) rfl rfl rfl ⟨rfl, rfl, rfl⟩)
 ·
  refine TC.block ?_
  intro a W hF hO
  have hS : ∃ (x1600 : Int) (x1601 : ByteArray), code_Text.l0 a0 (a0.f1.length + 1) x1600 x1601 = some o2374 ∧ Fr 53 a [(3, .pointer (some ⟨b6, 0, none⟩)), (4, .func (.func 62) #[] #[.pointer (some ⟨b6, 0, none⟩)]), (17, .slice A1 a0.f1.length c2), (18, .int .i64 (a0.f1.length : Int)), (19, .int .i64 x1600)] ∧ Own G (Bld 83 5 b6 x1601 :: L) W := by
   exact ⟨0, (cat (⟨#[]⟩ : ByteArray) (cat y52 (⟨#[10]⟩ : ByteArray))), ho2374, hF.sub ⟨rfl, rfl, rfl, rfl, rfl, trivial⟩, hO.selT (Ls := [Bld 83 5 b6 (cat (⟨#[]⟩ : ByteArray) (cat y52 (⟨#[10]⟩ : ByteArray)))]) [1] 3 rfl rfl rfl⟩
  clear hF hO ho2374 ko2374
  refine TC.loop (fun n2375 a W => ∃ (x1600 : Int) (x1601 : ByteArray), code_Text.l0 a0 n2375 x1600 x1601 = some o2374 ∧ Fr 53 a [(3, .pointer (some ⟨b6, 0, none⟩)), (4, .func (.func 62) #[] #[.pointer (some ⟨b6, 0, none⟩)]), (17, .slice A1 a0.f1.length c2), (18, .int .i64 (a0.f1.length : Int)), (19, .int .i64 x1600)] ∧ Own G (Bld 83 5 b6 x1601 :: L) W) ?_ ?_ hS
  ·
   rintro a W ⟨x1600, x1601, h, hF, hO⟩
   exact none_no h
  ·
   clear hS
   rintro n2375 a W ⟨x1600, x1601, h, hF, hO⟩
   rw [code_Text.l0] at h
   refine TC.use ?_ hF hO
   clear hF hO
   refine TC.seq ?_
   refine TC.region ?_
   refine TL.cons (TO.val rfl rfl rfl (Val.cmp rfl rfl run_lss) ?_)
   refine TL.nil ?_
   refine TQ.then_ ?_
   refine TC.seq ?_
   refine TC.cond_p rfl h (fun hc3148 h => ?_) (fun hc3148 h => ?_)
   ·
    refine TC.skip ?_
    refine TQ.then_ ?_
    refine TC.seq ?_
    refine TC.block ?_
    refine TC.seq ?_
    refine TC.region ?_
    refine TL.cons (TO.val rfl rfl rfl (Val.move rfl) ?_)
    obtain ⟨y3631, hx3632, h⟩ := bind_no h
    obtain ⟨ad3633, cs3639, hA3634, hi3635, hj3636, hcl3637, hK3638⟩ := Rd.at hr3 hx3632
    obtain ⟨A3640, c3641, rfl, hr3642, hl3643⟩ := k37_openR hK3638
    refine TL.cons (TO.val rfl rfl rfl (Val.indexAddr Tryd.underlying25 fsz37 rfl hA3634 rfl hi3635 hj3636) ?_)
    refine TL.cons (TO.val rfl rfl rfl (Val.loadsS (cs := [.slice A3640 y3631.f0.length c3641, .int .i64 y3631.f1.f0, .int .i64 y3631.f1.f1, .int .i64 y3631.f1.f2, .int .i64 y3631.f1.f3]) agg37 fsz37 rfl rfl (Cl.sub (off := 0) (n := 5) hcl3637 rfl)) ?_)
    refine TL.cons (TL.alloc (cs := [.slice none 0 0, .int .i64 0, .int .i64 0, .int .i64 0, .int .i64 0]) rfl rfl zr37 rfl (fun b3644 => ?_))
    refine TL.cons (TO.val rfl rfl rfl (Val.assign rfl) ?_)
    refine TL.cons (TL.store 0 (ds := [.slice A3640 y3631.f0.length c3641, .int .i64 y3631.f1.f0, .int .i64 y3631.f1.f1, .int .i64 y3631.f1.f2, .int .i64 y3631.f1.f3]) (cs' := [.slice A3640 y3631.f0.length c3641, .int .i64 y3631.f1.f0, .int .i64 y3631.f1.f1, .int .i64 y3631.f1.f2, .int .i64 y3631.f1.f3]) (L' := (Blk b3644 [.slice A3640 y3631.f0.length c3641, .int .i64 y3631.f1.f0, .int .i64 y3631.f1.f1, .int .i64 y3631.f1.f2, .int .i64 y3631.f1.f3] 37 :: Bld 83 5 b6 x1601 :: L)) rfl fsz37 rfl rfl rfl rfl rfl (Nat.le_of_ble_eq_true rfl) rfl rfl ?_)
    refine TL.nil ?_
    refine TQ.then_ ?_
    refine TC.seq ?_
    refine TC.region ?_
    refine TL.cons (TO.val rfl rfl rfl (Val.move rfl) ?_)
    refine TL.cons (TO.val rfl rfl rfl (Val.move rfl) ?_)
    obtain ⟨y3645, hy3646, h⟩ := bind_no h
    refine TL.cons (TL.callV (Lin := []) (args := [.int .i64 x1600]) rfl rfl rfl hbd66 rfl rfl (code_b.calls (a0 := x1600) ht hy3646) rfl ?_)
    rintro _ _ _ _ ⟨rfl, rfl, rfl⟩
    obtain ⟨hz3647, h⟩ := ite_no h
    refine TL.cons (TO.val rfl rfl rfl (Val.addS rfl rfl hz3647) ?_)
    refine TL.cons (TL.buildSlice (xs := [.tmp 27]) (vs := [.string (cat y3645 (⟨#[58]⟩ : ByteArray))]) (cs := [.string (cat y3645 (⟨#[58]⟩ : ByteArray))]) rfl rfl Tryd.underlying84 zs9 rfl rfl rfl rfl rfl rfl rfl rfl (fun b3648 => ?_))
    refine TL.cons (TO.inl (args := [.slice (some ⟨b3648, 0, none⟩) 1 1, .pointer (some ⟨b6, 0, none⟩)]) (e' := [(0, .slice (some ⟨b3648, 0, none⟩) 1 1), (1, .pointer (some ⟨b6, 0, none⟩))]) 7 rfl rfl hbd62 rfl rfl Tryd.func62 rfl Tryd.ntmps62 rfl rfl (Nat.le_of_ble_eq_true rfl) (fun a3649 hf3650 => ?_))
    refine TC.region ?_
    refine TL.cons (TO.val rfl rfl rfl (Val.move rfl) ?_)
    refine TL.cons (TO.inl (args := [.slice (some ⟨b3648, 0, none⟩) 1 1]) (e' := [(0, .slice (some ⟨b3648, 0, none⟩) 1 1)]) 5 rfl rfl hbd64 rfl rfl Tryd.func64 rfl Tryd.ntmps64 rfl rfl (Nat.le_of_ble_eq_true rfl) (fun a3673 hf3674 => ?_))
    refine TC.seq ?_
    refine TC.region ?_
    refine TL.cons (TO.val rfl rfl rfl (Val.assign rfl) ?_)
    refine TL.nil ?_
    refine TQ.then_ ?_
    refine TC.seq ?_
    refine TC.region ?_
    refine TL.cons (TO.val rfl rfl rfl (Val.move rfl) ?_)
    refine TK.new (Els.nil Kd.string) ?_
    refine TK.new (El.of (k := Kd.string) (xv := (cat y3645 (⟨#[58]⟩ : ByteArray))) (cs := [.string (cat y3645 (⟨#[58]⟩ : ByteArray))]) (fun W B => rfl)) ?_
    refine TK.sel (Ls := [Els Kd.string [] [], El Kd.string (cat y3645 (⟨#[58]⟩ : ByteArray)) [.string (cat y3645 (⟨#[58]⟩ : ByteArray))], Blk b3648 [.string (cat y3645 (⟨#[58]⟩ : ByteArray))] 9, Blk b3644 [.slice A3640 y3631.f0.length c3641, .int .i64 y3631.f1.f0, .int .i64 y3631.f1.f1, .int .i64 y3631.f1.f2, .int .i64 y3631.f1.f3] 37, Bld 83 5 b6 x1601]) [1, 0, 2, 3, 4] 5 rfl rfl rfl ?_
    refine TK.two (ch := Els Kd.string [(cat y3645 (⟨#[58]⟩ : ByteArray))] [.string (cat y3645 (⟨#[58]⟩ : ByteArray))]) (Els.snoc Kd.string) ?_
    refine TK.sel (Ls := [Blk b3648 [.string (cat y3645 (⟨#[58]⟩ : ByteArray))] 9, Els Kd.string [(cat y3645 (⟨#[58]⟩ : ByteArray))] [.string (cat y3645 (⟨#[58]⟩ : ByteArray))], Blk b3644 [.slice A3640 y3631.f0.length c3641, .int .i64 y3631.f1.f0, .int .i64 y3631.f1.f1, .int .i64 y3631.f1.f2, .int .i64 y3631.f1.f3] 37, Bld 83 5 b6 x1601]) [1, 0, 2, 3] 4 rfl rfl rfl ?_
    refine TK.two (ch := Row Kd.string 9 (.slice (some ⟨b3648, 0, none⟩) 1 1) ([(cat y3645 (⟨#[58]⟩ : ByteArray))] : List ByteArray)) (Row.lit Kd.string rfl rfl) ?_
    refine TK.share (fun G3685 e3686 hs3687 hb3688 => ?_)
    have rd3689 : Rd G3685 Kd.string (some ⟨b3648, 0, none⟩) ([(cat y3645 (⟨#[58]⟩ : ByteArray))] : List ByteArray) := Rd.row hs3687
    have le3690 : ([(cat y3645 (⟨#[58]⟩ : ByteArray))] : List ByteArray).length ≤ 1 := Row.le hs3687
    obtain ⟨y3691, hy3692, h⟩ := bind_no h
    refine TL.cons (TL.callV (Lin := []) (args := [.slice (some ⟨b3648, 0, none⟩) 1 1, .string (⟨#[32]⟩ : ByteArray)]) rfl rfl rfl hbd84 rfl rfl (strings_Join.calls (a0 := ([(cat y3645 (⟨#[58]⟩ : ByteArray))] : List ByteArray)) (a1 := (⟨#[32]⟩ : ByteArray)) (Row.pl (k := Kd.string) hs3687) rd3689 le3690 hy3692) rfl ?_)
    rintro _ _ _ _ ⟨rfl, rfl, rfl⟩
    refine TL.cons (TO.val rfl rfl rfl (Val.assign rfl) ?_)
    refine TL.nil ?_
    refine TQ.then_ ?_
    refine TC.ret ?_
    refine TQ.fin (v := .string y3691) (.inl rfl) rfl Tryd.results64 (.tmp rfl .nil) rfl (After.mk hf3674 rfl ?_)
    obtain ⟨hz3693, h⟩ := ite_no h
    refine TL.cons (TO.val rfl rfl rfl (Val.addS rfl rfl hz3693) ?_)
    refine TK.sel (Ls := [Bld 83 5 b6 x1601, Blk b3644 [.slice A3640 y3631.f0.length c3641, .int .i64 y3631.f1.f0, .int .i64 y3631.f1.f1, .int .i64 y3631.f1.f2, .int .i64 y3631.f1.f3] 37]) [1, 0] 2 rfl rfl rfl ?_
    obtain ⟨hl3694, h⟩ := ite_no h
    refine TL.cons (TL.callV (Lin := [Bld 83 5 b6 x1601]) (args := [.pointer (some ⟨b6, 0, none⟩), .string (cat y3691 (⟨#[10]⟩ : ByteArray))]) rfl rfl rfl hbd63 rfl rfl (builder_write hl3694) rfl ?_)
    rintro _ _ _ _ ⟨rfl, rfl, rfl⟩
    refine TL.nil ?_
    refine TQ.fin (v := .tuple #[]) (.inr rfl) rfl Tryd.results62 .nil rfl (After.mk hf3650 rfl ?_)
    refine TL.nil ?_
    refine TQ.then_ ?_
    refine TC.seq ?_
    refine TC.seq ?_
    refine TC.region ?_
    refine TL.cons (TO.val rfl rfl rfl (Val.fieldAddrB Tryd.underlying37 rfl fsz33 rfl rfl rfl) ?_)
    refine TL.cons (TO.val rfl rfl rfl (Val.loadB 1 agg33 rfl rfl rfl) ?_)
    refine TL.cons (TO.val rfl rfl rfl (Val.len Tryd.underlying33 rfl) ?_)
    refine TL.cons (TO.val rfl rfl rfl (Val.move rfl) ?_)
    refine TL.nil ?_
    refine TQ.then_ ?_
    refine TC.back hb3688 ?_
    obtain ⟨o4090, ho4090, ko4090⟩ := bind_no h
    clear h
    refine TC.tail (fun a W => ∃ (x4089 : ByteArray), x4089 = o4090 ∧ Fr 53 a [(3, .pointer (some ⟨b6, 0, none⟩)), (4, .func (.func 62) #[] #[.pointer (some ⟨b6, 0, none⟩)]), (6, .pointer (some ⟨b3644, 0, none⟩)), (17, .slice A1 a0.f1.length c2), (18, .int .i64 (a0.f1.length : Int)), (19, .int .i64 x1600)] ∧ Own G (Blk b3644 [.slice A3640 y3631.f0.length c3641, .int .i64 y3631.f1.f0, .int .i64 y3631.f1.f1, .int .i64 y3631.f1.f2, .int .i64 y3631.f1.f3] 37 :: Bld 83 5 b6 x4089 :: L) W) ?_ ?_
    ·
     rintro a W ⟨x4089, rfl, hF, hO⟩
     have h := ko4090
     clear ko4090 ho4090
     refine TQ.use ?_ hF hO
     clear hF hO
     refine TQ.then_ ?_
     refine TC.region ?_
     refine TL.cons (TO.val rfl rfl rfl (Val.move rfl) ?_)
     refine TL.cons (TO.val rfl rfl rfl (Val.fieldAddrB Tryd.underlying37 rfl fsz35 rfl rfl rfl) ?_)
     refine TL.cons (TO.val rfl rfl rfl (Val.loadsB 0 (cs := [.int .i64 y3631.f1.f0, .int .i64 y3631.f1.f1, .int .i64 y3631.f1.f2, .int .i64 y3631.f1.f3]) agg35 fsz35 rfl rfl rfl rfl) ?_)
     obtain ⟨y4222, hy4223, h⟩ := bind_no h
     refine TL.cons (TL.callV (Lin := []) (args := [.agg #[.int .i64 y3631.f1.f0, .int .i64 y3631.f1.f1, .int .i64 y3631.f1.f2, .int .i64 y3631.f1.f3]]) rfl rfl rfl hbd68 rfl rfl (code_termText.calls (a0 := y3631.f1) ht hy4223) rfl ?_)
     rintro _ _ _ _ ⟨rfl, rfl, rfl⟩
     obtain ⟨hz4224, h⟩ := ite_no h
     refine TL.cons (TO.val rfl rfl rfl (Val.addS rfl rfl hz4224) ?_)
     refine TL.cons (TL.buildSlice (xs := [.tmp 48]) (vs := [.string (cat (⟨#[32, 32]⟩ : ByteArray) y4222)]) (cs := [.string (cat (⟨#[32, 32]⟩ : ByteArray) y4222)]) rfl rfl Tryd.underlying84 zs9 rfl rfl rfl rfl rfl rfl rfl rfl (fun b4225 => ?_))
     refine TL.cons (TO.inl (args := [.slice (some ⟨b4225, 0, none⟩) 1 1, .pointer (some ⟨b6, 0, none⟩)]) (e' := [(0, .slice (some ⟨b4225, 0, none⟩) 1 1), (1, .pointer (some ⟨b6, 0, none⟩))]) 7 rfl rfl hbd62 rfl rfl Tryd.func62 rfl Tryd.ntmps62 rfl rfl (Nat.le_of_ble_eq_true rfl) (fun a4226 hf4227 => ?_))
     refine TC.region ?_
     refine TL.cons (TO.val rfl rfl rfl (Val.move rfl) ?_)
     refine TL.cons (TO.inl (args := [.slice (some ⟨b4225, 0, none⟩) 1 1]) (e' := [(0, .slice (some ⟨b4225, 0, none⟩) 1 1)]) 5 rfl rfl hbd64 rfl rfl Tryd.func64 rfl Tryd.ntmps64 rfl rfl (Nat.le_of_ble_eq_true rfl) (fun a4250 hf4251 => ?_))
     refine TC.seq ?_
     refine TC.region ?_
     refine TL.cons (TO.val rfl rfl rfl (Val.assign rfl) ?_)
     refine TL.nil ?_
     refine TQ.then_ ?_
     refine TC.seq ?_
     refine TC.region ?_
     refine TL.cons (TO.val rfl rfl rfl (Val.move rfl) ?_)
     refine TK.new (Els.nil Kd.string) ?_
     refine TK.new (El.of (k := Kd.string) (xv := (cat (⟨#[32, 32]⟩ : ByteArray) y4222)) (cs := [.string (cat (⟨#[32, 32]⟩ : ByteArray) y4222)]) (fun W B => rfl)) ?_
     refine TK.sel (Ls := [Els Kd.string [] [], El Kd.string (cat (⟨#[32, 32]⟩ : ByteArray) y4222) [.string (cat (⟨#[32, 32]⟩ : ByteArray) y4222)], Blk b4225 [.string (cat (⟨#[32, 32]⟩ : ByteArray) y4222)] 9, Blk b3644 [.slice A3640 y3631.f0.length c3641, .int .i64 y3631.f1.f0, .int .i64 y3631.f1.f1, .int .i64 y3631.f1.f2, .int .i64 y3631.f1.f3] 37, Bld 83 5 b6 x4089]) [1, 0, 2, 3, 4] 5 rfl rfl rfl ?_
     refine TK.two (ch := Els Kd.string [(cat (⟨#[32, 32]⟩ : ByteArray) y4222)] [.string (cat (⟨#[32, 32]⟩ : ByteArray) y4222)]) (Els.snoc Kd.string) ?_
     refine TK.sel (Ls := [Blk b4225 [.string (cat (⟨#[32, 32]⟩ : ByteArray) y4222)] 9, Els Kd.string [(cat (⟨#[32, 32]⟩ : ByteArray) y4222)] [.string (cat (⟨#[32, 32]⟩ : ByteArray) y4222)], Blk b3644 [.slice A3640 y3631.f0.length c3641, .int .i64 y3631.f1.f0, .int .i64 y3631.f1.f1, .int .i64 y3631.f1.f2, .int .i64 y3631.f1.f3] 37, Bld 83 5 b6 x4089]) [1, 0, 2, 3] 4 rfl rfl rfl ?_
     refine TK.two (ch := Row Kd.string 9 (.slice (some ⟨b4225, 0, none⟩) 1 1) ([(cat (⟨#[32, 32]⟩ : ByteArray) y4222)] : List ByteArray)) (Row.lit Kd.string rfl rfl) ?_
     refine TK.share (fun G4262 e4263 hs4264 hb4265 => ?_)
     have rd4266 : Rd G4262 Kd.string (some ⟨b4225, 0, none⟩) ([(cat (⟨#[32, 32]⟩ : ByteArray) y4222)] : List ByteArray) := Rd.row hs4264
     have le4267 : ([(cat (⟨#[32, 32]⟩ : ByteArray) y4222)] : List ByteArray).length ≤ 1 := Row.le hs4264
     obtain ⟨y4268, hy4269, h⟩ := bind_no h
     refine TL.cons (TL.callV (Lin := []) (args := [.slice (some ⟨b4225, 0, none⟩) 1 1, .string (⟨#[32]⟩ : ByteArray)]) rfl rfl rfl hbd84 rfl rfl (strings_Join.calls (a0 := ([(cat (⟨#[32, 32]⟩ : ByteArray) y4222)] : List ByteArray)) (a1 := (⟨#[32]⟩ : ByteArray)) (Row.pl (k := Kd.string) hs4264) rd4266 le4267 hy4269) rfl ?_)
     rintro _ _ _ _ ⟨rfl, rfl, rfl⟩
     refine TL.cons (TO.val rfl rfl rfl (Val.assign rfl) ?_)
     refine TL.nil ?_
     refine TQ.then_ ?_
     refine TC.ret ?_
     refine TQ.fin (v := .string y4268) (.inl rfl) rfl Tryd.results64 (.tmp rfl .nil) rfl (After.mk hf4251 rfl ?_)
     obtain ⟨hz4270, h⟩ := ite_no h
     refine TL.cons (TO.val rfl rfl rfl (Val.addS rfl rfl hz4270) ?_)
     refine TK.sel (Ls := [Bld 83 5 b6 x4089, Blk b3644 [.slice A3640 y3631.f0.length c3641, .int .i64 y3631.f1.f0, .int .i64 y3631.f1.f1, .int .i64 y3631.f1.f2, .int .i64 y3631.f1.f3] 37]) [1, 0] 2 rfl rfl rfl ?_
     obtain ⟨hl4271, h⟩ := ite_no h
     refine TL.cons (TL.callV (Lin := [Bld 83 5 b6 x4089]) (args := [.pointer (some ⟨b6, 0, none⟩), .string (cat y4268 (⟨#[10]⟩ : ByteArray))]) rfl rfl rfl hbd63 rfl rfl (builder_write hl4271) rfl ?_)
     rintro _ _ _ _ ⟨rfl, rfl, rfl⟩
     refine TL.nil ?_
     refine TQ.fin (v := .tuple #[]) (.inr rfl) rfl Tryd.results62 .nil rfl (After.mk hf4227 rfl ?_)
     refine TL.nil ?_
     refine TQ.inB ?_
     refine TQ.then_ ?_
     refine TC.region ?_
     refine TL.cons (TO.val rfl rfl rfl (Val.cmp rfl rfl run_add) ?_)
     refine TL.cons (TO.val rfl rfl rfl (Val.move rfl) ?_)
     refine TL.nil ?_
     refine TQ.back hb4265 ?_
     exact fun a W hF hO => ⟨IntKind.i64.wrap (x1600 + 1), (cat x4089 (cat y4268 (⟨#[10]⟩ : ByteArray))), h, hF.sub ⟨rfl, rfl, rfl, rfl, rfl, trivial⟩, hO.selT (Ls := [Bld 83 5 b6 (cat x4089 (cat y4268 (⟨#[10]⟩ : ByteArray)))]) [1] 3 rfl rfl rfl⟩
    ·
     refine TC.block ?_
     intro a W hF hO
     have hS : ∃ (x3957 : Int) (x3958 : ByteArray), code_Text.l1 y3631 (y3631.f0.length + 1) x3957 x3958 = some o4090 ∧ Fr 53 a [(3, .pointer (some ⟨b6, 0, none⟩)), (4, .func (.func 62) #[] #[.pointer (some ⟨b6, 0, none⟩)]), (6, .pointer (some ⟨b3644, 0, none⟩)), (17, .slice A1 a0.f1.length c2), (18, .int .i64 (a0.f1.length : Int)), (19, .int .i64 x1600), (31, .slice A3640 y3631.f0.length c3641), (32, .int .i64 (y3631.f0.length : Int)), (33, .int .i64 x3957)] ∧ Own G (Blk b3644 [.slice A3640 y3631.f0.length c3641, .int .i64 y3631.f1.f0, .int .i64 y3631.f1.f1, .int .i64 y3631.f1.f2, .int .i64 y3631.f1.f3] 37 :: Bld 83 5 b6 x3958 :: L) W := by
      exact ⟨0, (cat x1601 (cat y3691 (⟨#[10]⟩ : ByteArray))), ho4090, hF.sub ⟨rfl, rfl, rfl, rfl, rfl, rfl, rfl, rfl, rfl, trivial⟩, hO.selT (Ls := [Blk b3644 [.slice A3640 y3631.f0.length c3641, .int .i64 y3631.f1.f0, .int .i64 y3631.f1.f1, .int .i64 y3631.f1.f2, .int .i64 y3631.f1.f3] 37, Bld 83 5 b6 (cat x1601 (cat y3691 (⟨#[10]⟩ : ByteArray)))]) [2, 1] 3 rfl rfl rfl⟩
     clear hF hO ho4090 ko4090
     refine TC.loop (fun n4091 a W => ∃ (x3957 : Int) (x3958 : ByteArray), code_Text.l1 y3631 n4091 x3957 x3958 = some o4090 ∧ Fr 53 a [(3, .pointer (some ⟨b6, 0, none⟩)), (4, .func (.func 62) #[] #[.pointer (some ⟨b6, 0, none⟩)]), (6, .pointer (some ⟨b3644, 0, none⟩)), (17, .slice A1 a0.f1.length c2), (18, .int .i64 (a0.f1.length : Int)), (19, .int .i64 x1600), (31, .slice A3640 y3631.f0.length c3641), (32, .int .i64 (y3631.f0.length : Int)), (33, .int .i64 x3957)] ∧ Own G (Blk b3644 [.slice A3640 y3631.f0.length c3641, .int .i64 y3631.f1.f0, .int .i64 y3631.f1.f1, .int .i64 y3631.f1.f2, .int .i64 y3631.f1.f3] 37 :: Bld 83 5 b6 x3958 :: L) W) ?_ ?_ hS
     ·
      rintro a W ⟨x3957, x3958, h, hF, hO⟩
      exact none_no h
     ·
      clear hS
      rintro n4091 a W ⟨x3957, x3958, h, hF, hO⟩
      rw [code_Text.l1] at h
      refine TC.use ?_ hF hO
      clear hF hO
      refine TC.seq ?_
      refine TC.region ?_
      refine TL.cons (TO.val rfl rfl rfl (Val.cmp rfl rfl run_lss) ?_)
      refine TL.nil ?_
      refine TQ.then_ ?_
      refine TC.seq ?_
      refine TC.cond_p rfl h (fun hc4273 h => ?_) (fun hc4273 h => ?_)
      ·
       refine TC.skip ?_
       refine TQ.then_ ?_
       refine TC.seq ?_
       refine TC.block ?_
       refine TC.seq ?_
       refine TC.region ?_
       obtain ⟨y4338, hx4339, h⟩ := bind_no h
       obtain ⟨ad4340, cs4346, hA4341, hi4342, hj4343, hcl4344, hK4345⟩ := Rd.at hr3642 hx4339
       obtain ⟨A4347, c4348, rfl, hr4349, hl4350⟩ := k40_openR hK4345
       refine TL.cons (TO.val rfl rfl rfl (Val.indexAddr Tryd.underlying33 fsz40 rfl hA4341 rfl hi4342 hj4343) ?_)
       refine TL.cons (TO.val rfl rfl rfl (Val.loadsS (cs := [.int .i64 y4338.f0, .int .i64 y4338.f1, .int .i64 y4338.f2, .int .i64 y4338.f3, .int .i64 y4338.f4, .slice A4347 y4338.f5.length c4348]) agg40 fsz40 rfl rfl (Cl.sub (off := 0) (n := 6) hcl4344 rfl)) ?_)
       refine TL.cons (TL.alloc (cs := [.int .i64 0, .int .i64 0, .int .i64 0, .int .i64 0, .int .i64 0, .slice none 0 0]) rfl rfl zr40 rfl (fun b4351 => ?_))
       refine TL.cons (TL.store 0 (ds := [.int .i64 y4338.f0, .int .i64 y4338.f1, .int .i64 y4338.f2, .int .i64 y4338.f3, .int .i64 y4338.f4, .slice A4347 y4338.f5.length c4348]) (cs' := [.int .i64 y4338.f0, .int .i64 y4338.f1, .int .i64 y4338.f2, .int .i64 y4338.f3, .int .i64 y4338.f4, .slice A4347 y4338.f5.length c4348]) (L' := (Blk b4351 [.int .i64 y4338.f0, .int .i64 y4338.f1, .int .i64 y4338.f2, .int .i64 y4338.f3, .int .i64 y4338.f4, .slice A4347 y4338.f5.length c4348] 40 :: Blk b3644 [.slice A3640 y3631.f0.length c3641, .int .i64 y3631.f1.f0, .int .i64 y3631.f1.f1, .int .i64 y3631.f1.f2, .int .i64 y3631.f1.f3] 37 :: Bld 83 5 b6 x3958 :: L)) rfl fsz40 rfl rfl rfl rfl rfl (Nat.le_of_ble_eq_true rfl) rfl rfl ?_)
       refine TL.nil ?_
       refine TQ.then_ ?_
       refine TC.region ?_
       refine TL.cons (TO.val rfl rfl rfl (Val.move rfl) ?_)
       refine TL.cons (TO.val rfl rfl rfl (Val.loadsB 0 (cs := [.int .i64 y4338.f0, .int .i64 y4338.f1, .int .i64 y4338.f2, .int .i64 y4338.f3, .int .i64 y4338.f4, .slice A4347 y4338.f5.length c4348]) agg40 fsz40 rfl rfl rfl rfl) ?_)
       obtain ⟨y4352, hy4353, h⟩ := bind_no h
       refine TL.cons (TL.callV (Lin := []) (args := [.agg #[.int .i64 y4338.f0, .int .i64 y4338.f1, .int .i64 y4338.f2, .int .i64 y4338.f3, .int .i64 y4338.f4, .slice A4347 y4338.f5.length c4348]]) rfl rfl rfl hbd67 rfl rfl (code_opText.calls (a0 := y4338) ht hr4349 hl4350 hy4353) rfl ?_)
       rintro _ _ _ _ ⟨rfl, rfl, rfl⟩
       obtain ⟨hz4354, h⟩ := ite_no h
       refine TL.cons (TO.val rfl rfl rfl (Val.addS rfl rfl hz4354) ?_)
       refine TL.cons (TL.buildSlice (xs := [.tmp 40]) (vs := [.string (cat (⟨#[32, 32]⟩ : ByteArray) y4352)]) (cs := [.string (cat (⟨#[32, 32]⟩ : ByteArray) y4352)]) rfl rfl Tryd.underlying84 zs9 rfl rfl rfl rfl rfl rfl rfl rfl (fun b4355 => ?_))
       refine TL.cons (TO.inl (args := [.slice (some ⟨b4355, 0, none⟩) 1 1, .pointer (some ⟨b6, 0, none⟩)]) (e' := [(0, .slice (some ⟨b4355, 0, none⟩) 1 1), (1, .pointer (some ⟨b6, 0, none⟩))]) 7 rfl rfl hbd62 rfl rfl Tryd.func62 rfl Tryd.ntmps62 rfl rfl (Nat.le_of_ble_eq_true rfl) (fun a4356 hf4357 => ?_))
       refine TC.region ?_
       refine TL.cons (TO.val rfl rfl rfl (Val.move rfl) ?_)
       refine TL.cons (TO.inl (args := [.slice (some ⟨b4355, 0, none⟩) 1 1]) (e' := [(0, .slice (some ⟨b4355, 0, none⟩) 1 1)]) 5 rfl rfl hbd64 rfl rfl Tryd.func64 rfl Tryd.ntmps64 rfl rfl (Nat.le_of_ble_eq_true rfl) (fun a4380 hf4381 => ?_))
       refine TC.seq ?_
       refine TC.region ?_
       refine TL.cons (TO.val rfl rfl rfl (Val.assign rfl) ?_)
       refine TL.nil ?_
       refine TQ.then_ ?_
       refine TC.seq ?_
       refine TC.region ?_
       refine TL.cons (TO.val rfl rfl rfl (Val.move rfl) ?_)
       refine TK.new (Els.nil Kd.string) ?_
       refine TK.new (El.of (k := Kd.string) (xv := (cat (⟨#[32, 32]⟩ : ByteArray) y4352)) (cs := [.string (cat (⟨#[32, 32]⟩ : ByteArray) y4352)]) (fun W B => rfl)) ?_
       refine TK.sel (Ls := [Els Kd.string [] [], El Kd.string (cat (⟨#[32, 32]⟩ : ByteArray) y4352) [.string (cat (⟨#[32, 32]⟩ : ByteArray) y4352)], Blk b4355 [.string (cat (⟨#[32, 32]⟩ : ByteArray) y4352)] 9, Blk b4351 [.int .i64 y4338.f0, .int .i64 y4338.f1, .int .i64 y4338.f2, .int .i64 y4338.f3, .int .i64 y4338.f4, .slice A4347 y4338.f5.length c4348] 40, Blk b3644 [.slice A3640 y3631.f0.length c3641, .int .i64 y3631.f1.f0, .int .i64 y3631.f1.f1, .int .i64 y3631.f1.f2, .int .i64 y3631.f1.f3] 37, Bld 83 5 b6 x3958]) [1, 0, 2, 3, 4, 5] 6 rfl rfl rfl ?_
       refine TK.two (ch := Els Kd.string [(cat (⟨#[32, 32]⟩ : ByteArray) y4352)] [.string (cat (⟨#[32, 32]⟩ : ByteArray) y4352)]) (Els.snoc Kd.string) ?_
       refine TK.sel (Ls := [Blk b4355 [.string (cat (⟨#[32, 32]⟩ : ByteArray) y4352)] 9, Els Kd.string [(cat (⟨#[32, 32]⟩ : ByteArray) y4352)] [.string (cat (⟨#[32, 32]⟩ : ByteArray) y4352)], Blk b4351 [.int .i64 y4338.f0, .int .i64 y4338.f1, .int .i64 y4338.f2, .int .i64 y4338.f3, .int .i64 y4338.f4, .slice A4347 y4338.f5.length c4348] 40, Blk b3644 [.slice A3640 y3631.f0.length c3641, .int .i64 y3631.f1.f0, .int .i64 y3631.f1.f1, .int .i64 y3631.f1.f2, .int .i64 y3631.f1.f3] 37, Bld 83 5 b6 x3958]) [1, 0, 2, 3, 4] 5 rfl rfl rfl ?_
       refine TK.two (ch := Row Kd.string 9 (.slice (some ⟨b4355, 0, none⟩) 1 1) ([(cat (⟨#[32, 32]⟩ : ByteArray) y4352)] : List ByteArray)) (Row.lit Kd.string rfl rfl) ?_
       refine TK.share (fun G4392 e4393 hs4394 hb4395 => ?_)
       have rd4396 : Rd G4392 Kd.string (some ⟨b4355, 0, none⟩) ([(cat (⟨#[32, 32]⟩ : ByteArray) y4352)] : List ByteArray) := Rd.row hs4394
       have le4397 : ([(cat (⟨#[32, 32]⟩ : ByteArray) y4352)] : List ByteArray).length ≤ 1 := Row.le hs4394
       obtain ⟨y4398, hy4399, h⟩ := bind_no h
       refine TL.cons (TL.callV (Lin := []) (args := [.slice (some ⟨b4355, 0, none⟩) 1 1, .string (⟨#[32]⟩ : ByteArray)]) rfl rfl rfl hbd84 rfl rfl (strings_Join.calls (a0 := ([(cat (⟨#[32, 32]⟩ : ByteArray) y4352)] : List ByteArray)) (a1 := (⟨#[32]⟩ : ByteArray)) (Row.pl (k := Kd.string) hs4394) rd4396 le4397 hy4399) rfl ?_)
       rintro _ _ _ _ ⟨rfl, rfl, rfl⟩
       refine TL.cons (TO.val rfl rfl rfl (Val.assign rfl) ?_)
       refine TL.nil ?_
       refine TQ.then_ ?_
       refine TC.ret ?_
       refine TQ.fin (v := .string y4398) (.inl rfl) rfl Tryd.results64 (.tmp rfl .nil) rfl (After.mk hf4381 rfl ?_)
       obtain ⟨hz4400, h⟩ := ite_no h
       refine TL.cons (TO.val rfl rfl rfl (Val.addS rfl rfl hz4400) ?_)
       refine TK.sel (Ls := [Bld 83 5 b6 x3958, Blk b4351 [.int .i64 y4338.f0, .int .i64 y4338.f1, .int .i64 y4338.f2, .int .i64 y4338.f3, .int .i64 y4338.f4, .slice A4347 y4338.f5.length c4348] 40, Blk b3644 [.slice A3640 y3631.f0.length c3641, .int .i64 y3631.f1.f0, .int .i64 y3631.f1.f1, .int .i64 y3631.f1.f2, .int .i64 y3631.f1.f3] 37]) [2, 0, 1] 3 rfl rfl rfl ?_
       obtain ⟨hl4401, h⟩ := ite_no h
       refine TL.cons (TL.callV (Lin := [Bld 83 5 b6 x3958]) (args := [.pointer (some ⟨b6, 0, none⟩), .string (cat y4398 (⟨#[10]⟩ : ByteArray))]) rfl rfl rfl hbd63 rfl rfl (builder_write hl4401) rfl ?_)
       rintro _ _ _ _ ⟨rfl, rfl, rfl⟩
       refine TL.nil ?_
       refine TQ.fin (v := .tuple #[]) (.inr rfl) rfl Tryd.results62 .nil rfl (After.mk hf4357 rfl ?_)
       refine TL.nil ?_
       refine TQ.inB ?_
       refine TQ.then_ ?_
       refine TC.region ?_
       refine TL.cons (TO.val rfl rfl rfl (Val.cmp rfl rfl run_add) ?_)
       refine TL.cons (TO.val rfl rfl rfl (Val.move rfl) ?_)
       refine TL.nil ?_
       refine TQ.back hb4395 ?_
       exact fun a W hF hO => ⟨IntKind.i64.wrap (x3957 + 1), (cat x3958 (cat y4398 (⟨#[10]⟩ : ByteArray))), h, hF.sub ⟨rfl, rfl, rfl, rfl, rfl, rfl, rfl, rfl, rfl, trivial⟩, hO.selT (Ls := [Blk b3644 [.slice A3640 y3631.f0.length c3641, .int .i64 y3631.f1.f0, .int .i64 y3631.f1.f1, .int .i64 y3631.f1.f2, .int .i64 y3631.f1.f3] 37, Bld 83 5 b6 (cat x3958 (cat y4398 (⟨#[10]⟩ : ByteArray)))]) [3, 1] 4 rfl rfl rfl⟩
      ·
       refine TC.exit ?_
       refine TQ.thenX ?_
       refine TQ.thenX ?_
       refine TQ.inBX ?_
       exact fun a W hF hO => ⟨x3958, Option.some.inj h, hF.sub ⟨rfl, rfl, rfl, rfl, rfl, rfl, trivial⟩, hO.selT (Ls := [Blk b3644 [.slice A3640 y3631.f0.length c3641, .int .i64 y3631.f1.f0, .int .i64 y3631.f1.f1, .int .i64 y3631.f1.f2, .int .i64 y3631.f1.f3] 37, Bld 83 5 b6 x3958]) [0, 1] 2 rfl rfl rfl⟩
   ·
    refine TC.exit ?_
    refine TQ.thenX ?_
    refine TQ.thenX ?_
    refine TQ.inBX ?_
    exact fun a W hF hO => ⟨x1601, Option.some.inj h, hF.sub ⟨rfl, trivial⟩, hO.selT (Ls := [Bld 83 5 b6 x1601]) [0] 1 rfl rfl rfl⟩
end Go.Proofs.YtmacdhkfgoahcaaDoor.Sy
set_option linter.unusedVariables false
set_option linter.unusedSimpArgs false
set_option maxRecDepth 100000
set_option maxHeartbeats 4000000
namespace Go.Proofs.YtmacdhkfgoahcaaDoor.Sy
open Go Go.RowKit Go.Proofs.YtmacdhkfgoahcaaDoorW.PrintWords 
def swagelaw14_small.f : Option Bool := (code_Right.f (⟨0, ([(⟨([(⟨1, 1, 0, 0, 4, ([] : List Int)⟩ : S40), (⟨2, 3, 1, 1, 1, ([] : List Int)⟩ : S40), (⟨9, 0, 3, 0, 0, ([] : List Int)⟩ : S40)] : List S40), (⟨3, 1, 0, 0⟩ : S35)⟩ : S37)] : List S37)⟩ : S27) 1).bind fun (y495 : Bool) => (if y495 = true then (code_Program.f ([(⟨0, ([(⟨([(⟨1, 1, 0, 0, 4, ([] : List Int)⟩ : S40), (⟨2, 3, 1, 1, 1, ([] : List Int)⟩ : S40), (⟨9, 0, 3, 0, 0, ([] : List Int)⟩ : S40)] : List S40), (⟨3, 1, 0, 0⟩ : S35)⟩ : S37)] : List S37)⟩ : S27)] : List S27)).bind fun (y508 : Bool) => (if y508 = true then (code_Text.f (⟨0, ([(⟨([(⟨1, 1, 0, 0, 4, ([] : List Int)⟩ : S40), (⟨2, 3, 1, 1, 1, ([] : List Int)⟩ : S40), (⟨9, 0, 3, 0, 0, ([] : List Int)⟩ : S40)] : List S40), (⟨3, 1, 0, 0⟩ : S35)⟩ : S37)] : List S37)⟩ : S27)).bind fun (y512 : ByteArray) => (if (y512.data.toList == (⟨#[112, 97, 114, 97, 109, 115, 32, 48, 10, 98, 48, 58, 10, 32, 32, 99, 111, 110, 115, 116, 32, 118, 49, 32, 52, 10, 32, 32, 98, 105, 110, 46, 49, 32, 118, 51, 32, 118, 49, 32, 118, 49, 10, 32, 32, 112, 114, 105, 110, 116, 32, 118, 51, 10, 32, 32, 114, 101, 116, 117, 114, 110, 32, 118, 49, 10]⟩ : ByteArray).data.toList) = true then (code_Regs.f (⟨0, ([(⟨([(⟨1, 1, 0, 0, 4, ([] : List Int)⟩ : S40), (⟨2, 3, 1, 1, 1, ([] : List Int)⟩ : S40), (⟨9, 0, 3, 0, 0, ([] : List Int)⟩ : S40)] : List S40), (⟨3, 1, 0, 0⟩ : S35)⟩ : S37)] : List S37)⟩ : S27)).bind fun (y516 : Int) => (if y516 = 3 then (at? ([(⟨([(⟨1, 1, 0, 0, 4, ([] : List Int)⟩ : S40), (⟨2, 3, 1, 1, 1, ([] : List Int)⟩ : S40), (⟨9, 0, 3, 0, 0, ([] : List Int)⟩ : S40)] : List S40), (⟨3, 1, 0, 0⟩ : S35)⟩ : S37)] : List S37) 0).bind fun y520 => (at? y520.f0 1).bind fun y533 => (code_Uses.f y533).bind fun (y546 : (List Int)) => (swageref02_Ints.f y546 ([1, 1] : List Int)).bind fun (y565 : Bool) => (if y565 = true then (code_Sets.f y533).bind fun (y569 : Int) => (if y569 = 3 then (code_Copy.f (⟨0, ([(⟨([(⟨1, 1, 0, 0, 4, ([] : List Int)⟩ : S40), (⟨2, 3, 1, 1, 1, ([] : List Int)⟩ : S40), (⟨9, 0, 3, 0, 0, ([] : List Int)⟩ : S40)] : List S40), (⟨3, 1, 0, 0⟩ : S35)⟩ : S37)] : List S37)⟩ : S27)).bind fun (y573 : S27) => (code_Same.f (⟨0, ([(⟨([(⟨1, 1, 0, 0, 4, ([] : List Int)⟩ : S40), (⟨2, 3, 1, 1, 1, ([] : List Int)⟩ : S40), (⟨9, 0, 3, 0, 0, ([] : List Int)⟩ : S40)] : List S40), (⟨3, 1, 0, 0⟩ : S35)⟩ : S37)] : List S37)⟩ : S27) y573).bind fun (y584 : Bool) => (if y584 = true then (code_Pure.f y533).bind fun (y588 : Bool) => some y588 else some false) else some false) else some false) else some false) else some false) else some false) else some false)
def swagelaw14_small.post (G : Gd)  (r : Bool) (v : Value) (G' : Gd) (Lr : List Ch) : Prop := G = G' ∧ v = .bool r ∧ Lr = []
theorem swagelaw14_small.calls {G : Gd} {r : Bool} (ht : Tab G) (h : swagelaw14_small.f = some r) : Fn Tryd.prog 7 G [] [] (swagelaw14_small.post G  r) := by
 refine Fn.intro (e := []) 66 Tryd.func7 rfl Tryd.ntmps7 rfl rfl (Nat.le_of_ble_eq_true rfl) (fun L => ?_)
 unfold swagelaw14_small.f at h
 refine TC.seq ?_
 refine TC.region ?_
 refine TL.cons (TO.val rfl rfl rfl (Val.assign rfl) ?_)
 refine TL.nil ?_
 refine TQ.then_ ?_
 refine TC.seq ?_
 refine TC.region ?_
 refine TL.cons (TO.val rfl rfl rfl (Val.build (cs := [.int .i64 1, .int .i64 1, .int .i64 0, .int .i64 0, .int .i64 4, .slice none 0 0]) (is := [0, 1, 4]) (xs := [.const (.int .i64 1), .const (.int .i64 1), .const (.int .i64 4)]) Tryd.underlying40 zr40 bld40 rfl rfl rfl rfl) ?_)
 refine TL.cons (TO.val rfl rfl rfl (Val.build (cs := [.int .i64 2, .int .i64 3, .int .i64 1, .int .i64 1, .int .i64 1, .slice none 0 0]) (is := [0, 1, 2, 3, 4]) (xs := [.const (.int .i64 2), .const (.int .i64 3), .const (.int .i64 1), .const (.int .i64 1), .const (.int .i64 1)]) Tryd.underlying40 zr40 bld40 rfl rfl rfl rfl) ?_)
 refine TL.cons (TO.val rfl rfl rfl (Val.build (cs := [.int .i64 9, .int .i64 0, .int .i64 3, .int .i64 0, .int .i64 0, .slice none 0 0]) (is := [0, 2]) (xs := [.const (.int .i64 9), .const (.int .i64 3)]) Tryd.underlying40 zr40 bld40 rfl rfl rfl rfl) ?_)
 refine TL.cons (TL.buildSlice (xs := [.tmp 2, .tmp 3, .tmp 4]) (vs := [.agg #[.int .i64 1, .int .i64 1, .int .i64 0, .int .i64 0, .int .i64 4, .slice none 0 0], .agg #[.int .i64 2, .int .i64 3, .int .i64 1, .int .i64 1, .int .i64 1, .slice none 0 0], .agg #[.int .i64 9, .int .i64 0, .int .i64 3, .int .i64 0, .int .i64 0, .slice none 0 0]]) (cs := [.int .i64 1, .int .i64 1, .int .i64 0, .int .i64 0, .int .i64 4, .slice none 0 0, .int .i64 2, .int .i64 3, .int .i64 1, .int .i64 1, .int .i64 1, .slice none 0 0, .int .i64 9, .int .i64 0, .int .i64 3, .int .i64 0, .int .i64 0, .slice none 0 0]) rfl rfl Tryd.underlying33 zs40 rfl rfl rfl rfl rfl rfl rfl rfl (fun b1 => ?_))
 refine TL.cons (TO.val rfl rfl rfl (Val.build (cs := [.int .i64 3, .int .i64 1, .int .i64 0, .int .i64 0]) (is := [0, 1]) (xs := [.const (.int .i64 3), .const (.int .i64 1)]) Tryd.underlying35 zr35 bld35 rfl rfl rfl rfl) ?_)
 refine TL.cons (TO.val rfl rfl rfl (Val.build (cs := [.slice (some ⟨b1, 0, none⟩) 3 3, .int .i64 3, .int .i64 1, .int .i64 0, .int .i64 0]) (is := [0, 1]) (xs := [.tmp 5, .tmp 6]) Tryd.underlying37 zr37 bld37 rfl rfl rfl rfl) ?_)
 refine TL.cons (TL.buildSlice (xs := [.tmp 7]) (vs := [.agg #[.slice (some ⟨b1, 0, none⟩) 3 3, .int .i64 3, .int .i64 1, .int .i64 0, .int .i64 0]]) (cs := [.slice (some ⟨b1, 0, none⟩) 3 3, .int .i64 3, .int .i64 1, .int .i64 0, .int .i64 0]) rfl rfl Tryd.underlying25 zs37 rfl rfl rfl rfl rfl rfl rfl rfl (fun b2 => ?_))
 refine TL.cons (TO.val rfl rfl rfl (Val.build (cs := [.int .i64 0, .slice (some ⟨b2, 0, none⟩) 1 1]) (is := [1]) (xs := [.tmp 8]) Tryd.underlying27 zr27 bld27 rfl rfl rfl rfl) ?_)
 refine TL.cons (TL.alloc (cs := [.int .i64 0, .slice none 0 0]) rfl rfl zr27 rfl (fun b3 => ?_))
 refine TL.cons (TL.store 0 (ds := [.int .i64 0, .slice (some ⟨b2, 0, none⟩) 1 1]) (cs' := [.int .i64 0, .slice (some ⟨b2, 0, none⟩) 1 1]) (L' := (Blk b3 [.int .i64 0, .slice (some ⟨b2, 0, none⟩) 1 1] 27 :: Blk b2 [.slice (some ⟨b1, 0, none⟩) 3 3, .int .i64 3, .int .i64 1, .int .i64 0, .int .i64 0] 37 :: Blk b1 [.int .i64 1, .int .i64 1, .int .i64 0, .int .i64 0, .int .i64 4, .slice none 0 0, .int .i64 2, .int .i64 3, .int .i64 1, .int .i64 1, .int .i64 1, .slice none 0 0, .int .i64 9, .int .i64 0, .int .i64 3, .int .i64 0, .int .i64 0, .slice none 0 0] 40 :: L)) rfl fsz27 rfl rfl rfl rfl rfl (Nat.le_of_ble_eq_true rfl) rfl rfl ?_)
 refine TL.nil ?_
 refine TQ.then_ ?_
 refine TC.seq ?_
 refine TC.new (Els.nil k40) ?_
 refine TC.new (Row.nil (Kd.int .i64) 3) ?_
 refine TC.conv (ch' := El k40 (⟨1, 1, 0, 0, 4, ([] : List Int)⟩ : S40) [.int .i64 1, .int .i64 1, .int .i64 0, .int .i64 0, .int .i64 4, .slice none 0 0]) (fun B W F hh => k40_mkM W B F (⟨1, 1, 0, 0, 4, ([] : List Int)⟩ : S40) hh) ?_
 refine TC.sel (Ls := [Els k40 [] [], El k40 (⟨1, 1, 0, 0, 4, ([] : List Int)⟩ : S40) [.int .i64 1, .int .i64 1, .int .i64 0, .int .i64 0, .int .i64 4, .slice none 0 0], Blk b3 [.int .i64 0, .slice (some ⟨b2, 0, none⟩) 1 1] 27, Blk b2 [.slice (some ⟨b1, 0, none⟩) 3 3, .int .i64 3, .int .i64 1, .int .i64 0, .int .i64 0] 37, Blk b1 [.int .i64 1, .int .i64 1, .int .i64 0, .int .i64 0, .int .i64 4, .slice none 0 0, .int .i64 2, .int .i64 3, .int .i64 1, .int .i64 1, .int .i64 1, .slice none 0 0, .int .i64 9, .int .i64 0, .int .i64 3, .int .i64 0, .int .i64 0, .slice none 0 0] 40]) [1, 0, 2, 3, 4] 5 rfl rfl rfl ?_
 refine TC.two (ch := Els k40 [(⟨1, 1, 0, 0, 4, ([] : List Int)⟩ : S40)] [.int .i64 1, .int .i64 1, .int .i64 0, .int .i64 0, .int .i64 4, .slice none 0 0]) (Els.snoc k40) ?_
 refine TC.new (Row.nil (Kd.int .i64) 3) ?_
 refine TC.conv (ch' := El k40 (⟨2, 3, 1, 1, 1, ([] : List Int)⟩ : S40) [.int .i64 2, .int .i64 3, .int .i64 1, .int .i64 1, .int .i64 1, .slice none 0 0]) (fun B W F hh => k40_mkM W B F (⟨2, 3, 1, 1, 1, ([] : List Int)⟩ : S40) hh) ?_
 refine TC.sel (Ls := [Els k40 [(⟨1, 1, 0, 0, 4, ([] : List Int)⟩ : S40)] [.int .i64 1, .int .i64 1, .int .i64 0, .int .i64 0, .int .i64 4, .slice none 0 0], El k40 (⟨2, 3, 1, 1, 1, ([] : List Int)⟩ : S40) [.int .i64 2, .int .i64 3, .int .i64 1, .int .i64 1, .int .i64 1, .slice none 0 0], Blk b3 [.int .i64 0, .slice (some ⟨b2, 0, none⟩) 1 1] 27, Blk b2 [.slice (some ⟨b1, 0, none⟩) 3 3, .int .i64 3, .int .i64 1, .int .i64 0, .int .i64 0] 37, Blk b1 [.int .i64 1, .int .i64 1, .int .i64 0, .int .i64 0, .int .i64 4, .slice none 0 0, .int .i64 2, .int .i64 3, .int .i64 1, .int .i64 1, .int .i64 1, .slice none 0 0, .int .i64 9, .int .i64 0, .int .i64 3, .int .i64 0, .int .i64 0, .slice none 0 0] 40]) [1, 0, 2, 3, 4] 5 rfl rfl rfl ?_
 refine TC.two (ch := Els k40 [(⟨1, 1, 0, 0, 4, ([] : List Int)⟩ : S40), (⟨2, 3, 1, 1, 1, ([] : List Int)⟩ : S40)] [.int .i64 1, .int .i64 1, .int .i64 0, .int .i64 0, .int .i64 4, .slice none 0 0, .int .i64 2, .int .i64 3, .int .i64 1, .int .i64 1, .int .i64 1, .slice none 0 0]) (Els.snoc k40) ?_
 refine TC.new (Row.nil (Kd.int .i64) 3) ?_
 refine TC.conv (ch' := El k40 (⟨9, 0, 3, 0, 0, ([] : List Int)⟩ : S40) [.int .i64 9, .int .i64 0, .int .i64 3, .int .i64 0, .int .i64 0, .slice none 0 0]) (fun B W F hh => k40_mkM W B F (⟨9, 0, 3, 0, 0, ([] : List Int)⟩ : S40) hh) ?_
 refine TC.sel (Ls := [Els k40 [(⟨1, 1, 0, 0, 4, ([] : List Int)⟩ : S40), (⟨2, 3, 1, 1, 1, ([] : List Int)⟩ : S40)] [.int .i64 1, .int .i64 1, .int .i64 0, .int .i64 0, .int .i64 4, .slice none 0 0, .int .i64 2, .int .i64 3, .int .i64 1, .int .i64 1, .int .i64 1, .slice none 0 0], El k40 (⟨9, 0, 3, 0, 0, ([] : List Int)⟩ : S40) [.int .i64 9, .int .i64 0, .int .i64 3, .int .i64 0, .int .i64 0, .slice none 0 0], Blk b3 [.int .i64 0, .slice (some ⟨b2, 0, none⟩) 1 1] 27, Blk b2 [.slice (some ⟨b1, 0, none⟩) 3 3, .int .i64 3, .int .i64 1, .int .i64 0, .int .i64 0] 37, Blk b1 [.int .i64 1, .int .i64 1, .int .i64 0, .int .i64 0, .int .i64 4, .slice none 0 0, .int .i64 2, .int .i64 3, .int .i64 1, .int .i64 1, .int .i64 1, .slice none 0 0, .int .i64 9, .int .i64 0, .int .i64 3, .int .i64 0, .int .i64 0, .slice none 0 0] 40]) [1, 0, 2, 3, 4] 5 rfl rfl rfl ?_
 refine TC.two (ch := Els k40 [(⟨1, 1, 0, 0, 4, ([] : List Int)⟩ : S40), (⟨2, 3, 1, 1, 1, ([] : List Int)⟩ : S40), (⟨9, 0, 3, 0, 0, ([] : List Int)⟩ : S40)] [.int .i64 1, .int .i64 1, .int .i64 0, .int .i64 0, .int .i64 4, .slice none 0 0, .int .i64 2, .int .i64 3, .int .i64 1, .int .i64 1, .int .i64 1, .slice none 0 0, .int .i64 9, .int .i64 0, .int .i64 3, .int .i64 0, .int .i64 0, .slice none 0 0]) (Els.snoc k40) ?_
 refine TC.sel (Ls := [Blk b1 [.int .i64 1, .int .i64 1, .int .i64 0, .int .i64 0, .int .i64 4, .slice none 0 0, .int .i64 2, .int .i64 3, .int .i64 1, .int .i64 1, .int .i64 1, .slice none 0 0, .int .i64 9, .int .i64 0, .int .i64 3, .int .i64 0, .int .i64 0, .slice none 0 0] 40, Els k40 [(⟨1, 1, 0, 0, 4, ([] : List Int)⟩ : S40), (⟨2, 3, 1, 1, 1, ([] : List Int)⟩ : S40), (⟨9, 0, 3, 0, 0, ([] : List Int)⟩ : S40)] [.int .i64 1, .int .i64 1, .int .i64 0, .int .i64 0, .int .i64 4, .slice none 0 0, .int .i64 2, .int .i64 3, .int .i64 1, .int .i64 1, .int .i64 1, .slice none 0 0, .int .i64 9, .int .i64 0, .int .i64 3, .int .i64 0, .int .i64 0, .slice none 0 0], Blk b3 [.int .i64 0, .slice (some ⟨b2, 0, none⟩) 1 1] 27, Blk b2 [.slice (some ⟨b1, 0, none⟩) 3 3, .int .i64 3, .int .i64 1, .int .i64 0, .int .i64 0] 37]) [3, 0, 1, 2] 4 rfl rfl rfl ?_
 refine TC.two (ch := Row k40 40 (.slice (some ⟨b1, 0, none⟩) 3 3) ([(⟨1, 1, 0, 0, 4, ([] : List Int)⟩ : S40), (⟨2, 3, 1, 1, 1, ([] : List Int)⟩ : S40), (⟨9, 0, 3, 0, 0, ([] : List Int)⟩ : S40)] : List S40)) (Row.lit k40 rfl rfl) ?_
 refine TC.new (Els.nil k37) ?_
 refine TC.sel (Ls := [Row k40 40 (.slice (some ⟨b1, 0, none⟩) 3 3) ([(⟨1, 1, 0, 0, 4, ([] : List Int)⟩ : S40), (⟨2, 3, 1, 1, 1, ([] : List Int)⟩ : S40), (⟨9, 0, 3, 0, 0, ([] : List Int)⟩ : S40)] : List S40), Els k37 [] [], Blk b3 [.int .i64 0, .slice (some ⟨b2, 0, none⟩) 1 1] 27, Blk b2 [.slice (some ⟨b1, 0, none⟩) 3 3, .int .i64 3, .int .i64 1, .int .i64 0, .int .i64 0] 37]) [1, 0, 2, 3] 4 rfl rfl rfl ?_
 refine TC.conv (ch' := El k37 (⟨([(⟨1, 1, 0, 0, 4, ([] : List Int)⟩ : S40), (⟨2, 3, 1, 1, 1, ([] : List Int)⟩ : S40), (⟨9, 0, 3, 0, 0, ([] : List Int)⟩ : S40)] : List S40), (⟨3, 1, 0, 0⟩ : S35)⟩ : S37) [.slice (some ⟨b1, 0, none⟩) 3 3, .int .i64 3, .int .i64 1, .int .i64 0, .int .i64 0]) (fun B W F hh => k37_mkM W B F (⟨([(⟨1, 1, 0, 0, 4, ([] : List Int)⟩ : S40), (⟨2, 3, 1, 1, 1, ([] : List Int)⟩ : S40), (⟨9, 0, 3, 0, 0, ([] : List Int)⟩ : S40)] : List S40), (⟨3, 1, 0, 0⟩ : S35)⟩ : S37) hh) ?_
 refine TC.sel (Ls := [Els k37 [] [], El k37 (⟨([(⟨1, 1, 0, 0, 4, ([] : List Int)⟩ : S40), (⟨2, 3, 1, 1, 1, ([] : List Int)⟩ : S40), (⟨9, 0, 3, 0, 0, ([] : List Int)⟩ : S40)] : List S40), (⟨3, 1, 0, 0⟩ : S35)⟩ : S37) [.slice (some ⟨b1, 0, none⟩) 3 3, .int .i64 3, .int .i64 1, .int .i64 0, .int .i64 0], Blk b3 [.int .i64 0, .slice (some ⟨b2, 0, none⟩) 1 1] 27, Blk b2 [.slice (some ⟨b1, 0, none⟩) 3 3, .int .i64 3, .int .i64 1, .int .i64 0, .int .i64 0] 37]) [1, 0, 2, 3] 4 rfl rfl rfl ?_
 refine TC.two (ch := Els k37 [(⟨([(⟨1, 1, 0, 0, 4, ([] : List Int)⟩ : S40), (⟨2, 3, 1, 1, 1, ([] : List Int)⟩ : S40), (⟨9, 0, 3, 0, 0, ([] : List Int)⟩ : S40)] : List S40), (⟨3, 1, 0, 0⟩ : S35)⟩ : S37)] [.slice (some ⟨b1, 0, none⟩) 3 3, .int .i64 3, .int .i64 1, .int .i64 0, .int .i64 0]) (Els.snoc k37) ?_
 refine TC.sel (Ls := [Blk b2 [.slice (some ⟨b1, 0, none⟩) 3 3, .int .i64 3, .int .i64 1, .int .i64 0, .int .i64 0] 37, Els k37 [(⟨([(⟨1, 1, 0, 0, 4, ([] : List Int)⟩ : S40), (⟨2, 3, 1, 1, 1, ([] : List Int)⟩ : S40), (⟨9, 0, 3, 0, 0, ([] : List Int)⟩ : S40)] : List S40), (⟨3, 1, 0, 0⟩ : S35)⟩ : S37)] [.slice (some ⟨b1, 0, none⟩) 3 3, .int .i64 3, .int .i64 1, .int .i64 0, .int .i64 0], Blk b3 [.int .i64 0, .slice (some ⟨b2, 0, none⟩) 1 1] 27]) [2, 0, 1] 3 rfl rfl rfl ?_
 refine TC.two (ch := Row k37 37 (.slice (some ⟨b2, 0, none⟩) 1 1) ([(⟨([(⟨1, 1, 0, 0, 4, ([] : List Int)⟩ : S40), (⟨2, 3, 1, 1, 1, ([] : List Int)⟩ : S40), (⟨9, 0, 3, 0, 0, ([] : List Int)⟩ : S40)] : List S40), (⟨3, 1, 0, 0⟩ : S35)⟩ : S37)] : List S37)) (Row.lit k37 rfl rfl) ?_
 refine TC.share (fun G489 e490 hs491 hb492 => ?_)
 have rd493 : Rd G489 k37 (some ⟨b2, 0, none⟩) ([(⟨([(⟨1, 1, 0, 0, 4, ([] : List Int)⟩ : S40), (⟨2, 3, 1, 1, 1, ([] : List Int)⟩ : S40), (⟨9, 0, 3, 0, 0, ([] : List Int)⟩ : S40)] : List S40), (⟨3, 1, 0, 0⟩ : S35)⟩ : S37)] : List S37) := Rd.row hs491
 have le494 : ([(⟨([(⟨1, 1, 0, 0, 4, ([] : List Int)⟩ : S40), (⟨2, 3, 1, 1, 1, ([] : List Int)⟩ : S40), (⟨9, 0, 3, 0, 0, ([] : List Int)⟩ : S40)] : List S40), (⟨3, 1, 0, 0⟩ : S35)⟩ : S37)] : List S37).length ≤ 1 := Row.le hs491
 refine TC.regionAny [] [0, 2, 3, 4, 5, 6, 7, 8, 9, 10, 11, 12, 13, 14, 15, 16, 17, 18, 19, 20, 21, 22, 23, 24, 25, 26, 27, 28, 29, 30, 31, 32, 33, 34, 35, 36, 37, 38, 39, 40, 41, 42, 43, 44, 45, 46, 47, 48, 49, 50, 51, 52, 53, 54, 55, 56] mixed (by kernel_rfl) ?_
 refine TA.take 0 rfl (by kernel_rfl) rfl (PQ.then_ PQ.body) rfl (Val.loadsB 0 (cs := [.int .i64 0, .slice (some ⟨b2, 0, none⟩) 1 1]) agg27 fsz27 rfl rfl rfl rfl) (fun W hO => hO) ?_
 obtain ⟨y495, hy496, h⟩ := bind_no h
 refine TA.eff 1 rfl (by kernel_rfl) rfl (TL.callV (Lin := []) (args := [.agg #[.int .i64 0, .slice (some ⟨b2, 0, none⟩) 1 1], .int .i64 1]) rfl rfl rfl hbd16 rfl rfl (code_Right.calls (a0 := (⟨0, ([(⟨([(⟨1, 1, 0, 0, 4, ([] : List Int)⟩ : S40), (⟨2, 3, 1, 1, 1, ([] : List Int)⟩ : S40), (⟨9, 0, 3, 0, 0, ([] : List Int)⟩ : S40)] : List S40), (⟨3, 1, 0, 0⟩ : S35)⟩ : S37)] : List S37)⟩ : S27)) (a1 := 1) rd493 le494 hy496) rfl ?_)
 rintro _ _ _ _ ⟨rfl, rfl, rfl⟩
 refine TA.next (fun W hO => hO) ?_
 refine TA.take 2 rfl (by kernel_rfl) rfl (PQ.then_ PQ.body) rfl (Val.move rfl) (fun W hO => hO) ?_
 refine TK.split (p := y495 = true) h (fun hg497 h => ?_) (fun hg497 h => ?_)
 ·
  have hk498 : y495 = true := hg497
  refine TA.take 3 rfl (by kernel_rfl) rfl (PQ.then_ PQ.body) (Wt.yes rfl rfl rfl hk498) (Val.loadsB 0 (cs := [.int .i64 0, .slice (some ⟨b2, 0, none⟩) 1 1]) agg27 fsz27 rfl rfl rfl rfl) (fun W hO => hO) ?_
  refine TA.eff 4 rfl (by kernel_rfl) rfl (TL.buildSlice (xs := [.tmp 13]) (vs := [.agg #[.int .i64 0, .slice (some ⟨b2, 0, none⟩) 1 1]]) (cs := [.int .i64 0, .slice (some ⟨b2, 0, none⟩) 1 1]) (Wt.yes rfl rfl rfl hk498) rfl Tryd.underlying22 zs27 rfl rfl rfl rfl rfl rfl rfl rfl (fun b499 => ?_))
  refine TA.next (fun W hO => hO.selT (Ls := [Blk b3 [.int .i64 0, .slice (some ⟨b2, 0, none⟩) 1 1] 27]) [1] 2 rfl rfl rfl) ?_
  refine TK.new (Els.nil (Sh G489 k27)) ?_
  refine TK.new (El.of (k := (Sh G489 k27)) (xv := (⟨0, ([(⟨([(⟨1, 1, 0, 0, 4, ([] : List Int)⟩ : S40), (⟨2, 3, 1, 1, 1, ([] : List Int)⟩ : S40), (⟨9, 0, 3, 0, 0, ([] : List Int)⟩ : S40)] : List S40), (⟨3, 1, 0, 0⟩ : S35)⟩ : S37)] : List S37)⟩ : S27)) (cs := [.int .i64 0, .slice (some ⟨b2, 0, none⟩) 1 1]) (fun W B => Sh.mk (fun W hW => k27_mk W (⟨0, ([(⟨([(⟨1, 1, 0, 0, 4, ([] : List Int)⟩ : S40), (⟨2, 3, 1, 1, 1, ([] : List Int)⟩ : S40), (⟨9, 0, 3, 0, 0, ([] : List Int)⟩ : S40)] : List S40), (⟨3, 1, 0, 0⟩ : S35)⟩ : S37)] : List S37)⟩ : S27) le494 (rd493 W hW)) W B _)) ?_
  refine TK.sel (Ls := [Els (Sh G489 k27) [] [], El (Sh G489 k27) (⟨0, ([(⟨([(⟨1, 1, 0, 0, 4, ([] : List Int)⟩ : S40), (⟨2, 3, 1, 1, 1, ([] : List Int)⟩ : S40), (⟨9, 0, 3, 0, 0, ([] : List Int)⟩ : S40)] : List S40), (⟨3, 1, 0, 0⟩ : S35)⟩ : S37)] : List S37)⟩ : S27) [.int .i64 0, .slice (some ⟨b2, 0, none⟩) 1 1], Blk b499 [.int .i64 0, .slice (some ⟨b2, 0, none⟩) 1 1] 27, Blk b3 [.int .i64 0, .slice (some ⟨b2, 0, none⟩) 1 1] 27]) [1, 0, 2, 3] 4 rfl rfl rfl ?_
  refine TK.two (ch := Els (Sh G489 k27) [(⟨0, ([(⟨([(⟨1, 1, 0, 0, 4, ([] : List Int)⟩ : S40), (⟨2, 3, 1, 1, 1, ([] : List Int)⟩ : S40), (⟨9, 0, 3, 0, 0, ([] : List Int)⟩ : S40)] : List S40), (⟨3, 1, 0, 0⟩ : S35)⟩ : S37)] : List S37)⟩ : S27)] [.int .i64 0, .slice (some ⟨b2, 0, none⟩) 1 1]) (Els.snoc (Sh G489 k27)) ?_
  refine TK.sel (Ls := [Blk b499 [.int .i64 0, .slice (some ⟨b2, 0, none⟩) 1 1] 27, Els (Sh G489 k27) [(⟨0, ([(⟨([(⟨1, 1, 0, 0, 4, ([] : List Int)⟩ : S40), (⟨2, 3, 1, 1, 1, ([] : List Int)⟩ : S40), (⟨9, 0, 3, 0, 0, ([] : List Int)⟩ : S40)] : List S40), (⟨3, 1, 0, 0⟩ : S35)⟩ : S37)] : List S37)⟩ : S27)] [.int .i64 0, .slice (some ⟨b2, 0, none⟩) 1 1], Blk b3 [.int .i64 0, .slice (some ⟨b2, 0, none⟩) 1 1] 27]) [1, 0, 2] 3 rfl rfl rfl ?_
  refine TK.two (ch := Row (Sh G489 k27) 27 (.slice (some ⟨b499, 0, none⟩) 1 1) ([(⟨0, ([(⟨([(⟨1, 1, 0, 0, 4, ([] : List Int)⟩ : S40), (⟨2, 3, 1, 1, 1, ([] : List Int)⟩ : S40), (⟨9, 0, 3, 0, 0, ([] : List Int)⟩ : S40)] : List S40), (⟨3, 1, 0, 0⟩ : S35)⟩ : S37)] : List S37)⟩ : S27)] : List S27)) (Row.lit (Sh G489 k27) rfl rfl) ?_
  refine TK.share (fun G501 e502 hs503 hb504 => ?_)
  have rd505 : Rd G501 k27 (some ⟨b499, 0, none⟩) ([(⟨0, ([(⟨([(⟨1, 1, 0, 0, 4, ([] : List Int)⟩ : S40), (⟨2, 3, 1, 1, 1, ([] : List Int)⟩ : S40), (⟨9, 0, 3, 0, 0, ([] : List Int)⟩ : S40)] : List S40), (⟨3, 1, 0, 0⟩ : S35)⟩ : S37)] : List S37)⟩ : S27)] : List S27) := Rd.unsh (Rd.row hs503) e502
  have le506 : ([(⟨0, ([(⟨([(⟨1, 1, 0, 0, 4, ([] : List Int)⟩ : S40), (⟨2, 3, 1, 1, 1, ([] : List Int)⟩ : S40), (⟨9, 0, 3, 0, 0, ([] : List Int)⟩ : S40)] : List S40), (⟨3, 1, 0, 0⟩ : S35)⟩ : S37)] : List S37)⟩ : S27)] : List S27).length ≤ 1 := Row.le hs503
  have rd507 := Rd.row hs503
  obtain ⟨y508, hy509, h⟩ := bind_no h
  refine TA.eff 5 rfl (by kernel_rfl) rfl (TL.callV (Lin := []) (args := [.slice (some ⟨b499, 0, none⟩) 1 1]) (Wt.yes rfl rfl rfl hk498) rfl rfl hbd14 rfl rfl (code_Program.calls (a0 := ([(⟨0, ([(⟨([(⟨1, 1, 0, 0, 4, ([] : List Int)⟩ : S40), (⟨2, 3, 1, 1, 1, ([] : List Int)⟩ : S40), (⟨9, 0, 3, 0, 0, ([] : List Int)⟩ : S40)] : List S40), (⟨3, 1, 0, 0⟩ : S35)⟩ : S37)] : List S37)⟩ : S27)] : List S27)) rd505 le506 hy509) rfl ?_)
  rintro _ _ _ _ ⟨rfl, rfl, rfl⟩
  refine TA.next (fun W hO => (hb504 _ _ hO).selT (Ls := [Blk b3 [.int .i64 0, .slice (some ⟨b2, 0, none⟩) 1 1] 27]) [1] 2 rfl rfl rfl) ?_
  refine TA.take 6 rfl (by kernel_rfl) rfl (PQ.then_ PQ.body) rfl (Val.pickY rfl hk498 rfl) (fun W hO => (hb504 _ _ hO).selT (Ls := [Blk b3 [.int .i64 0, .slice (some ⟨b2, 0, none⟩) 1 1] 27]) [1] 2 rfl rfl rfl) ?_
  refine TA.take 7 rfl (by kernel_rfl) rfl (PQ.then_ PQ.body) rfl (Val.move rfl) (fun W hO => (hb504 _ _ hO).selT (Ls := [Blk b3 [.int .i64 0, .slice (some ⟨b2, 0, none⟩) 1 1] 27]) [1] 2 rfl rfl rfl) ?_
  refine TK.split (p := y508 = true) h (fun hg510 h => ?_) (fun hg510 h => ?_)
  ·
   have hk511 : y508 = true := hg510
   refine TA.take 8 rfl (by kernel_rfl) rfl (PQ.then_ PQ.body) (Wt.yes rfl rfl rfl hk511) (Val.loadsB 0 (cs := [.int .i64 0, .slice (some ⟨b2, 0, none⟩) 1 1]) agg27 fsz27 rfl rfl rfl rfl) (fun W hO => (hb504 _ _ hO).selT (Ls := [Blk b3 [.int .i64 0, .slice (some ⟨b2, 0, none⟩) 1 1] 27]) [1] 2 rfl rfl rfl) ?_
   obtain ⟨y512, hy513, h⟩ := bind_no h
   refine TA.eff 9 rfl (by kernel_rfl) rfl (TL.callV (Lin := []) (args := [.agg #[.int .i64 0, .slice (some ⟨b2, 0, none⟩) 1 1]]) (Wt.yes rfl rfl rfl hk511) rfl rfl hbd34 rfl rfl (code_Text.calls (a0 := (⟨0, ([(⟨([(⟨1, 1, 0, 0, 4, ([] : List Int)⟩ : S40), (⟨2, 3, 1, 1, 1, ([] : List Int)⟩ : S40), (⟨9, 0, 3, 0, 0, ([] : List Int)⟩ : S40)] : List S40), (⟨3, 1, 0, 0⟩ : S35)⟩ : S37)] : List S37)⟩ : S27)) (ht.up (Gd.le.trans e490 e502)) (rd493.up e502) le494 hy513) rfl ?_)
   rintro _ _ _ _ ⟨rfl, rfl, rfl⟩
   refine TA.next (fun W hO => (hb504 _ _ hO).selT (Ls := [Blk b3 [.int .i64 0, .slice (some ⟨b2, 0, none⟩) 1 1] 27]) [1] 2 rfl rfl rfl) ?_
   refine TA.take 10 rfl (by kernel_rfl) rfl (PQ.then_ PQ.body) (Wt.yes rfl rfl rfl hk511) (Val.eqT rfl rfl) (fun W hO => (hb504 _ _ hO).selT (Ls := [Blk b3 [.int .i64 0, .slice (some ⟨b2, 0, none⟩) 1 1] 27]) [1] 2 rfl rfl rfl) ?_
   refine TA.take 11 rfl (by kernel_rfl) rfl (PQ.then_ PQ.body) rfl (Val.pickY rfl hk511 rfl) (fun W hO => (hb504 _ _ hO).selT (Ls := [Blk b3 [.int .i64 0, .slice (some ⟨b2, 0, none⟩) 1 1] 27]) [1] 2 rfl rfl rfl) ?_
   refine TA.take 12 rfl (by kernel_rfl) rfl (PQ.then_ PQ.body) rfl (Val.move rfl) (fun W hO => (hb504 _ _ hO).selT (Ls := [Blk b3 [.int .i64 0, .slice (some ⟨b2, 0, none⟩) 1 1] 27]) [1] 2 rfl rfl rfl) ?_
   refine TK.split (p := (y512.data.toList == (⟨#[112, 97, 114, 97, 109, 115, 32, 48, 10, 98, 48, 58, 10, 32, 32, 99, 111, 110, 115, 116, 32, 118, 49, 32, 52, 10, 32, 32, 98, 105, 110, 46, 49, 32, 118, 51, 32, 118, 49, 32, 118, 49, 10, 32, 32, 112, 114, 105, 110, 116, 32, 118, 51, 10, 32, 32, 114, 101, 116, 117, 114, 110, 32, 118, 49, 10]⟩ : ByteArray).data.toList) = true) h (fun hg514 h => ?_) (fun hg514 h => ?_)
   ·
    have hk515 : (y512.data.toList == (⟨#[112, 97, 114, 97, 109, 115, 32, 48, 10, 98, 48, 58, 10, 32, 32, 99, 111, 110, 115, 116, 32, 118, 49, 32, 52, 10, 32, 32, 98, 105, 110, 46, 49, 32, 118, 51, 32, 118, 49, 32, 118, 49, 10, 32, 32, 112, 114, 105, 110, 116, 32, 118, 51, 10, 32, 32, 114, 101, 116, 117, 114, 110, 32, 118, 49, 10]⟩ : ByteArray).data.toList) = true := hg514
    refine TA.take 13 rfl (by kernel_rfl) rfl (PQ.then_ PQ.body) (Wt.yes rfl rfl rfl hk515) (Val.loadsB 0 (cs := [.int .i64 0, .slice (some ⟨b2, 0, none⟩) 1 1]) agg27 fsz27 rfl rfl rfl rfl) (fun W hO => (hb504 _ _ hO).selT (Ls := [Blk b3 [.int .i64 0, .slice (some ⟨b2, 0, none⟩) 1 1] 27]) [1] 2 rfl rfl rfl) ?_
    obtain ⟨y516, hy517, h⟩ := bind_no h
    refine TA.eff 14 rfl (by kernel_rfl) rfl (TL.callV (Lin := []) (args := [.agg #[.int .i64 0, .slice (some ⟨b2, 0, none⟩) 1 1]]) (Wt.yes rfl rfl rfl hk515) rfl rfl hbd32 rfl rfl (code_Regs.calls (a0 := (⟨0, ([(⟨([(⟨1, 1, 0, 0, 4, ([] : List Int)⟩ : S40), (⟨2, 3, 1, 1, 1, ([] : List Int)⟩ : S40), (⟨9, 0, 3, 0, 0, ([] : List Int)⟩ : S40)] : List S40), (⟨3, 1, 0, 0⟩ : S35)⟩ : S37)] : List S37)⟩ : S27)) (rd493.up e502) le494 hy517) rfl ?_)
    rintro _ _ _ _ ⟨rfl, rfl, rfl⟩
    refine TA.next (fun W hO => (hb504 _ _ hO).selT (Ls := [Blk b3 [.int .i64 0, .slice (some ⟨b2, 0, none⟩) 1 1] 27]) [1] 2 rfl rfl rfl) ?_
    refine TA.take 15 rfl (by kernel_rfl) rfl (PQ.then_ PQ.body) (Wt.yes rfl rfl rfl hk515) (Val.cmp rfl rfl run_eql) (fun W hO => (hb504 _ _ hO).selT (Ls := [Blk b3 [.int .i64 0, .slice (some ⟨b2, 0, none⟩) 1 1] 27]) [1] 2 rfl rfl rfl) ?_
    refine TA.take 16 rfl (by kernel_rfl) rfl (PQ.then_ PQ.body) rfl (Val.pickY rfl hk515 rfl) (fun W hO => (hb504 _ _ hO).selT (Ls := [Blk b3 [.int .i64 0, .slice (some ⟨b2, 0, none⟩) 1 1] 27]) [1] 2 rfl rfl rfl) ?_
    refine TA.take 17 rfl (by kernel_rfl) rfl (PQ.then_ PQ.body) rfl (Val.move rfl) (fun W hO => (hb504 _ _ hO).selT (Ls := [Blk b3 [.int .i64 0, .slice (some ⟨b2, 0, none⟩) 1 1] 27]) [1] 2 rfl rfl rfl) ?_
    refine TK.split (p := y516 = 3) h (fun hg518 h => ?_) (fun hg518 h => ?_)
    ·
     have hk519 : decide (y516 = 3) = true := decide_eq_true hg518
     refine TA.take 18 rfl (by kernel_rfl) rfl (PQ.then_ PQ.body) (Wt.yes rfl rfl rfl hk519) (Val.fieldAddrB Tryd.underlying27 rfl fsz25 rfl rfl rfl) (fun W hO => (hb504 _ _ hO).selT (Ls := [Blk b3 [.int .i64 0, .slice (some ⟨b2, 0, none⟩) 1 1] 27]) [1] 2 rfl rfl rfl) ?_
     refine TA.take 19 rfl (by kernel_rfl) rfl (PQ.then_ PQ.body) (Wt.yes rfl rfl rfl hk519) (Val.loadB 0 agg25 rfl rfl rfl) (fun W hO => (hb504 _ _ hO).selT (Ls := [Blk b3 [.int .i64 0, .slice (some ⟨b2, 0, none⟩) 1 1] 27]) [1] 2 rfl rfl rfl) ?_
     obtain ⟨y520, hx521, h⟩ := bind_no h
     obtain ⟨ad522, cs528, hA523, hi524, hj525, hcl526, hK527⟩ := Rd.at rd493 hx521
     obtain ⟨A529, c530, rfl, hr531, hl532⟩ := k37_openR hK527
     refine TA.take 20 rfl (by kernel_rfl) rfl (PQ.then_ PQ.body) (Wt.yes rfl rfl rfl hk519) (Val.indexAddr Tryd.underlying25 fsz37 rfl hA523 rfl hi524 hj525) (fun W hO => (hb504 _ _ hO).selT (Ls := [Blk b3 [.int .i64 0, .slice (some ⟨b2, 0, none⟩) 1 1] 27]) [1] 2 rfl rfl rfl) ?_
     refine TA.take 21 rfl (by kernel_rfl) rfl (PQ.then_ PQ.body) (Wt.yes rfl rfl rfl hk519) (Val.fieldAddrE Tryd.underlying37 rfl fsz33 rfl rfl) (fun W hO => (hb504 _ _ hO).selT (Ls := [Blk b3 [.int .i64 0, .slice (some ⟨b2, 0, none⟩) 1 1] 27]) [1] 2 rfl rfl rfl) ?_
     refine TA.take 22 rfl (by kernel_rfl) rfl (PQ.then_ PQ.body) (Wt.yes rfl rfl rfl hk519) (Val.loadS agg33 rfl (hcl526 0 _ rfl)) (fun W hO => (hb504 _ _ hO).selT (Ls := [Blk b3 [.int .i64 0, .slice (some ⟨b2, 0, none⟩) 1 1] 27]) [1] 2 rfl rfl rfl) ?_
     obtain ⟨y533, hx534, h⟩ := bind_no h
     obtain ⟨ad535, cs541, hA536, hi537, hj538, hcl539, hK540⟩ := Rd.at hr531 hx534
     obtain ⟨A542, c543, rfl, hr544, hl545⟩ := k40_openR hK540
     refine TA.take 23 rfl (by kernel_rfl) rfl (PQ.then_ PQ.body) (Wt.yes rfl rfl rfl hk519) (Val.indexAddr Tryd.underlying33 fsz40 rfl hA536 rfl hi537 hj538) (fun W hO => (hb504 _ _ hO).selT (Ls := [Blk b3 [.int .i64 0, .slice (some ⟨b2, 0, none⟩) 1 1] 27]) [1] 2 rfl rfl rfl) ?_
     refine TA.take 24 rfl (by kernel_rfl) rfl (PQ.then_ PQ.body) (Wt.yes rfl rfl rfl hk519) (Val.loadsS (cs := [.int .i64 y533.f0, .int .i64 y533.f1, .int .i64 y533.f2, .int .i64 y533.f3, .int .i64 y533.f4, .slice A542 y533.f5.length c543]) agg40 fsz40 rfl rfl (Cl.sub (off := 0) (n := 6) hcl539 rfl)) (fun W hO => (hb504 _ _ hO).selT (Ls := [Blk b3 [.int .i64 0, .slice (some ⟨b2, 0, none⟩) 1 1] 27]) [1] 2 rfl rfl rfl) ?_
     refine TA.effs 25 [26] (by kernel_rfl) ⟨⟨_, rfl, ?_⟩, ⟨_, rfl, ?_⟩, trivial⟩
     ·
      obtain ⟨y546, hy547, h⟩ := bind_no h
      refine TL.callV (Lin := []) (args := [.agg #[.int .i64 y533.f0, .int .i64 y533.f1, .int .i64 y533.f2, .int .i64 y533.f3, .int .i64 y533.f4, .slice A542 y533.f5.length c543]]) (Wt.yes rfl rfl rfl hk519) rfl rfl hbd19 rfl rfl (code_Uses.calls (a0 := y533) (hr544.up e502) hl545 hy547) rfl ?_
      rintro _ _ _ _ ⟨rfl, A548, c549, rfl, rfl⟩
      refine TA.next (fun W hO => (hb504 _ _ hO).selT (Ls := [Blk b3 [.int .i64 0, .slice (some ⟨b2, 0, none⟩) 1 1] 27]) [2] 3 rfl rfl rfl) ?_
      refine TA.eff 26 rfl (by kernel_rfl) rfl (TL.buildSlice (xs := [.const (.int .i64 1), .const (.int .i64 1)]) (vs := [.int .i64 1, .int .i64 1]) (cs := [.int .i64 1, .int .i64 1]) (Wt.yes rfl rfl rfl hk519) rfl Tryd.underlying38 zs3 rfl rfl rfl rfl rfl rfl rfl rfl (fun b551 => ?_))
      refine TA.next (fun W hO => (hb504 _ _ hO).selT (Ls := [Blk b3 [.int .i64 0, .slice (some ⟨b2, 0, none⟩) 1 1] 27]) [3] 4 rfl rfl rfl) ?_
      refine TK.sel (Ls := [Row (Kd.int .i64) 3 (.slice A548 y546.length c549) y546, Blk b551 [.int .i64 1, .int .i64 1] 3, Blk b3 [.int .i64 0, .slice (some ⟨b2, 0, none⟩) 1 1] 27]) [1, 0, 2] 3 rfl rfl rfl ?_
      refine TK.share (fun G552 e553 hs554 hb555 => ?_)
      have rd556 : Rd G552 (Kd.int .i64) A548 y546 := Rd.row hs554
      have le557 : y546.length ≤ c549 := Row.le hs554
      refine TK.new (Els.nil (Kd.int .i64)) ?_
      refine TK.new (El.of (k := (Kd.int .i64)) (xv := 1) (cs := [.int .i64 1]) (fun W B => rfl)) ?_
      refine TK.sel (Ls := [Els (Kd.int .i64) [] [], El (Kd.int .i64) 1 [.int .i64 1], Blk b551 [.int .i64 1, .int .i64 1] 3, Blk b3 [.int .i64 0, .slice (some ⟨b2, 0, none⟩) 1 1] 27]) [1, 0, 2, 3] 4 rfl rfl rfl ?_
      refine TK.two (ch := Els (Kd.int .i64) [1] [.int .i64 1]) (Els.snoc (Kd.int .i64)) ?_
      refine TK.new (El.of (k := (Kd.int .i64)) (xv := 1) (cs := [.int .i64 1]) (fun W B => rfl)) ?_
      refine TK.sel (Ls := [Els (Kd.int .i64) [1] [.int .i64 1], El (Kd.int .i64) 1 [.int .i64 1], Blk b551 [.int .i64 1, .int .i64 1] 3, Blk b3 [.int .i64 0, .slice (some ⟨b2, 0, none⟩) 1 1] 27]) [1, 0, 2, 3] 4 rfl rfl rfl ?_
      refine TK.two (ch := Els (Kd.int .i64) [1, 1] [.int .i64 1, .int .i64 1]) (Els.snoc (Kd.int .i64)) ?_
      refine TK.sel (Ls := [Blk b551 [.int .i64 1, .int .i64 1] 3, Els (Kd.int .i64) [1, 1] [.int .i64 1, .int .i64 1], Blk b3 [.int .i64 0, .slice (some ⟨b2, 0, none⟩) 1 1] 27]) [1, 0, 2] 3 rfl rfl rfl ?_
      refine TK.two (ch := Row (Kd.int .i64) 3 (.slice (some ⟨b551, 0, none⟩) 2 2) ([1, 1] : List Int)) (Row.lit (Kd.int .i64) rfl rfl) ?_
      refine TK.share (fun G559 e560 hs561 hb562 => ?_)
      have rd563 : Rd G559 (Kd.int .i64) (some ⟨b551, 0, none⟩) ([1, 1] : List Int) := Rd.row hs561
      have le564 : ([1, 1] : List Int).length ≤ 2 := Row.le hs561
      obtain ⟨y565, hy566, h⟩ := bind_no h
      refine TA.eff 27 rfl (by kernel_rfl) rfl (TL.callV (Lin := []) (args := [.slice A548 y546.length c549, .slice (some ⟨b551, 0, none⟩) 2 2]) (Wt.yes rfl rfl rfl hk519) rfl rfl hbd21 rfl rfl (swageref02_Ints.calls (a0 := y546) (a1 := ([1, 1] : List Int)) (rd556.up e560) le557 rd563 le564 hy566) rfl ?_)
      rintro _ _ _ _ ⟨rfl, rfl, rfl⟩
      refine TA.next (fun W hO => (hb504 _ _ (hb555 _ _ (hb562 _ _ hO))).selT (Ls := [Blk b3 [.int .i64 0, .slice (some ⟨b2, 0, none⟩) 1 1] 27]) [3] 4 rfl rfl rfl) ?_
      refine TA.take 28 rfl (by kernel_rfl) rfl (PQ.then_ PQ.body) rfl (Val.pickY rfl hk519 rfl) (fun W hO => (hb504 _ _ (hb555 _ _ (hb562 _ _ hO))).selT (Ls := [Blk b3 [.int .i64 0, .slice (some ⟨b2, 0, none⟩) 1 1] 27]) [3] 4 rfl rfl rfl) ?_
      refine TA.take 29 rfl (by kernel_rfl) rfl (PQ.then_ PQ.body) rfl (Val.move rfl) (fun W hO => (hb504 _ _ (hb555 _ _ (hb562 _ _ hO))).selT (Ls := [Blk b3 [.int .i64 0, .slice (some ⟨b2, 0, none⟩) 1 1] 27]) [3] 4 rfl rfl rfl) ?_
      refine TK.split (p := y565 = true) h (fun hg567 h => ?_) (fun hg567 h => ?_)
      ·
       have hk568 : y565 = true := hg567
       refine TA.take 30 rfl (by kernel_rfl) rfl (PQ.then_ PQ.body) (Wt.yes rfl rfl rfl hk568) (Val.fieldAddrB Tryd.underlying27 rfl fsz25 rfl rfl rfl) (fun W hO => (hb504 _ _ (hb555 _ _ (hb562 _ _ hO))).selT (Ls := [Blk b3 [.int .i64 0, .slice (some ⟨b2, 0, none⟩) 1 1] 27]) [3] 4 rfl rfl rfl) ?_
       refine TA.take 31 rfl (by kernel_rfl) rfl (PQ.then_ PQ.body) (Wt.yes rfl rfl rfl hk568) (Val.loadB 0 agg25 rfl rfl rfl) (fun W hO => (hb504 _ _ (hb555 _ _ (hb562 _ _ hO))).selT (Ls := [Blk b3 [.int .i64 0, .slice (some ⟨b2, 0, none⟩) 1 1] 27]) [3] 4 rfl rfl rfl) ?_
       refine TA.take 32 rfl (by kernel_rfl) rfl (PQ.then_ PQ.body) (Wt.yes rfl rfl rfl hk568) (Val.indexAddr Tryd.underlying25 fsz37 rfl hA523 rfl hi524 hj525) (fun W hO => (hb504 _ _ (hb555 _ _ (hb562 _ _ hO))).selT (Ls := [Blk b3 [.int .i64 0, .slice (some ⟨b2, 0, none⟩) 1 1] 27]) [3] 4 rfl rfl rfl) ?_
       refine TA.take 33 rfl (by kernel_rfl) rfl (PQ.then_ PQ.body) (Wt.yes rfl rfl rfl hk568) (Val.fieldAddrE Tryd.underlying37 rfl fsz33 rfl rfl) (fun W hO => (hb504 _ _ (hb555 _ _ (hb562 _ _ hO))).selT (Ls := [Blk b3 [.int .i64 0, .slice (some ⟨b2, 0, none⟩) 1 1] 27]) [3] 4 rfl rfl rfl) ?_
       refine TA.take 34 rfl (by kernel_rfl) rfl (PQ.then_ PQ.body) (Wt.yes rfl rfl rfl hk568) (Val.loadS agg33 rfl (hcl526 0 _ rfl)) (fun W hO => (hb504 _ _ (hb555 _ _ (hb562 _ _ hO))).selT (Ls := [Blk b3 [.int .i64 0, .slice (some ⟨b2, 0, none⟩) 1 1] 27]) [3] 4 rfl rfl rfl) ?_
       refine TA.take 35 rfl (by kernel_rfl) rfl (PQ.then_ PQ.body) (Wt.yes rfl rfl rfl hk568) (Val.indexAddr Tryd.underlying33 fsz40 rfl hA536 rfl hi537 hj538) (fun W hO => (hb504 _ _ (hb555 _ _ (hb562 _ _ hO))).selT (Ls := [Blk b3 [.int .i64 0, .slice (some ⟨b2, 0, none⟩) 1 1] 27]) [3] 4 rfl rfl rfl) ?_
       refine TA.take 36 rfl (by kernel_rfl) rfl (PQ.then_ PQ.body) (Wt.yes rfl rfl rfl hk568) (Val.loadsS (cs := [.int .i64 y533.f0, .int .i64 y533.f1, .int .i64 y533.f2, .int .i64 y533.f3, .int .i64 y533.f4, .slice A542 y533.f5.length c543]) agg40 fsz40 rfl rfl (Cl.sub (off := 0) (n := 6) hcl539 rfl)) (fun W hO => (hb504 _ _ (hb555 _ _ (hb562 _ _ hO))).selT (Ls := [Blk b3 [.int .i64 0, .slice (some ⟨b2, 0, none⟩) 1 1] 27]) [3] 4 rfl rfl rfl) ?_
       obtain ⟨y569, hy570, h⟩ := bind_no h
       refine TA.eff 37 rfl (by kernel_rfl) rfl (TL.callV (Lin := []) (args := [.agg #[.int .i64 y533.f0, .int .i64 y533.f1, .int .i64 y533.f2, .int .i64 y533.f3, .int .i64 y533.f4, .slice A542 y533.f5.length c543]]) (Wt.yes rfl rfl rfl hk568) rfl rfl hbd18 rfl rfl (code_Sets.calls (a0 := y533) (hr544.up (Gd.le.trans (Gd.le.trans e502 e553) e560)) hl545 hy570) rfl ?_)
       rintro _ _ _ _ ⟨rfl, rfl, rfl⟩
       refine TA.next (fun W hO => (hb504 _ _ (hb555 _ _ (hb562 _ _ hO))).selT (Ls := [Blk b3 [.int .i64 0, .slice (some ⟨b2, 0, none⟩) 1 1] 27]) [3] 4 rfl rfl rfl) ?_
       refine TA.take 38 rfl (by kernel_rfl) rfl (PQ.then_ PQ.body) (Wt.yes rfl rfl rfl hk568) (Val.cmp rfl rfl run_eql) (fun W hO => (hb504 _ _ (hb555 _ _ (hb562 _ _ hO))).selT (Ls := [Blk b3 [.int .i64 0, .slice (some ⟨b2, 0, none⟩) 1 1] 27]) [3] 4 rfl rfl rfl) ?_
       refine TA.take 39 rfl (by kernel_rfl) rfl (PQ.then_ PQ.body) rfl (Val.pickY rfl hk568 rfl) (fun W hO => (hb504 _ _ (hb555 _ _ (hb562 _ _ hO))).selT (Ls := [Blk b3 [.int .i64 0, .slice (some ⟨b2, 0, none⟩) 1 1] 27]) [3] 4 rfl rfl rfl) ?_
       refine TA.take 40 rfl (by kernel_rfl) rfl (PQ.then_ PQ.body) rfl (Val.move rfl) (fun W hO => (hb504 _ _ (hb555 _ _ (hb562 _ _ hO))).selT (Ls := [Blk b3 [.int .i64 0, .slice (some ⟨b2, 0, none⟩) 1 1] 27]) [3] 4 rfl rfl rfl) ?_
       refine TK.split (p := y569 = 3) h (fun hg571 h => ?_) (fun hg571 h => ?_)
       ·
        have hk572 : decide (y569 = 3) = true := decide_eq_true hg571
        refine TA.take 41 rfl (by kernel_rfl) rfl (PQ.then_ PQ.body) (Wt.yes rfl rfl rfl hk572) (Val.loadsB 0 (cs := [.int .i64 0, .slice (some ⟨b2, 0, none⟩) 1 1]) agg27 fsz27 rfl rfl rfl rfl) (fun W hO => (hb504 _ _ (hb555 _ _ (hb562 _ _ hO))).selT (Ls := [Blk b3 [.int .i64 0, .slice (some ⟨b2, 0, none⟩) 1 1] 27]) [3] 4 rfl rfl rfl) ?_
        refine TA.take 42 rfl (by kernel_rfl) rfl (PQ.then_ PQ.body) (Wt.yes rfl rfl rfl hk572) (Val.loadsB 0 (cs := [.int .i64 0, .slice (some ⟨b2, 0, none⟩) 1 1]) agg27 fsz27 rfl rfl rfl rfl) (fun W hO => (hb504 _ _ (hb555 _ _ (hb562 _ _ hO))).selT (Ls := [Blk b3 [.int .i64 0, .slice (some ⟨b2, 0, none⟩) 1 1] 27]) [3] 4 rfl rfl rfl) ?_
        obtain ⟨y573, hy574, h⟩ := bind_no h
        refine TA.eff 43 rfl (by kernel_rfl) rfl (TL.callV (Lin := []) (args := [.agg #[.int .i64 0, .slice (some ⟨b2, 0, none⟩) 1 1]]) (Wt.yes rfl rfl rfl hk572) rfl rfl hbd10 rfl rfl (code_Copy.calls (a0 := (⟨0, ([(⟨([(⟨1, 1, 0, 0, 4, ([] : List Int)⟩ : S40), (⟨2, 3, 1, 1, 1, ([] : List Int)⟩ : S40), (⟨9, 0, 3, 0, 0, ([] : List Int)⟩ : S40)] : List S40), (⟨3, 1, 0, 0⟩ : S35)⟩ : S37)] : List S37)⟩ : S27)) (rd493.up (Gd.le.trans (Gd.le.trans e502 e553) e560)) le494 hy574) rfl ?_)
        rintro _ _ _ _ ⟨rfl, A575, c576, rfl, rfl⟩
        refine TA.next (fun W hO => (hb504 _ _ (hb555 _ _ (hb562 _ _ hO))).selT (Ls := [Blk b3 [.int .i64 0, .slice (some ⟨b2, 0, none⟩) 1 1] 27]) [4] 5 rfl rfl rfl) ?_
        refine TK.share (fun G578 e579 hs580 hb581 => ?_)
        have rd582 : Rd G578 k37 A575 y573.f1 := Rd.row hs580
        have le583 : y573.f1.length ≤ c576 := Row.le hs580
        obtain ⟨y584, hy585, h⟩ := bind_no h
        refine TA.eff 44 rfl (by kernel_rfl) rfl (TL.callV (Lin := []) (args := [.agg #[.int .i64 0, .slice (some ⟨b2, 0, none⟩) 1 1], .agg #[.int .i64 y573.f0, .slice A575 y573.f1.length c576]]) (Wt.yes rfl rfl rfl hk572) rfl rfl hbd13 rfl rfl (code_Same.calls (a0 := (⟨0, ([(⟨([(⟨1, 1, 0, 0, 4, ([] : List Int)⟩ : S40), (⟨2, 3, 1, 1, 1, ([] : List Int)⟩ : S40), (⟨9, 0, 3, 0, 0, ([] : List Int)⟩ : S40)] : List S40), (⟨3, 1, 0, 0⟩ : S35)⟩ : S37)] : List S37)⟩ : S27)) (a1 := y573) (rd493.up (Gd.le.trans (Gd.le.trans (Gd.le.trans e502 e553) e560) e579)) le494 rd582 le583 hy585) rfl ?_)
        rintro _ _ _ _ ⟨rfl, rfl, rfl⟩
        refine TA.next (fun W hO => (hb504 _ _ (hb555 _ _ (hb562 _ _ (hb581 _ _ hO)))).selT (Ls := [Blk b3 [.int .i64 0, .slice (some ⟨b2, 0, none⟩) 1 1] 27]) [4] 5 rfl rfl rfl) ?_
        refine TA.take 45 rfl (by kernel_rfl) rfl (PQ.then_ PQ.body) rfl (Val.pickY rfl hk572 rfl) (fun W hO => (hb504 _ _ (hb555 _ _ (hb562 _ _ (hb581 _ _ hO)))).selT (Ls := [Blk b3 [.int .i64 0, .slice (some ⟨b2, 0, none⟩) 1 1] 27]) [4] 5 rfl rfl rfl) ?_
        refine TA.take 46 rfl (by kernel_rfl) rfl (PQ.then_ PQ.body) rfl (Val.move rfl) (fun W hO => (hb504 _ _ (hb555 _ _ (hb562 _ _ (hb581 _ _ hO)))).selT (Ls := [Blk b3 [.int .i64 0, .slice (some ⟨b2, 0, none⟩) 1 1] 27]) [4] 5 rfl rfl rfl) ?_
        refine TK.split (p := y584 = true) h (fun hg586 h => ?_) (fun hg586 h => ?_)
        ·
         have hk587 : y584 = true := hg586
         refine TA.take 47 rfl (by kernel_rfl) rfl (PQ.then_ PQ.body) (Wt.yes rfl rfl rfl hk587) (Val.fieldAddrB Tryd.underlying27 rfl fsz25 rfl rfl rfl) (fun W hO => (hb504 _ _ (hb555 _ _ (hb562 _ _ (hb581 _ _ hO)))).selT (Ls := [Blk b3 [.int .i64 0, .slice (some ⟨b2, 0, none⟩) 1 1] 27]) [4] 5 rfl rfl rfl) ?_
         refine TA.take 48 rfl (by kernel_rfl) rfl (PQ.then_ PQ.body) (Wt.yes rfl rfl rfl hk587) (Val.loadB 0 agg25 rfl rfl rfl) (fun W hO => (hb504 _ _ (hb555 _ _ (hb562 _ _ (hb581 _ _ hO)))).selT (Ls := [Blk b3 [.int .i64 0, .slice (some ⟨b2, 0, none⟩) 1 1] 27]) [4] 5 rfl rfl rfl) ?_
         refine TA.take 49 rfl (by kernel_rfl) rfl (PQ.then_ PQ.body) (Wt.yes rfl rfl rfl hk587) (Val.indexAddr Tryd.underlying25 fsz37 rfl hA523 rfl hi524 hj525) (fun W hO => (hb504 _ _ (hb555 _ _ (hb562 _ _ (hb581 _ _ hO)))).selT (Ls := [Blk b3 [.int .i64 0, .slice (some ⟨b2, 0, none⟩) 1 1] 27]) [4] 5 rfl rfl rfl) ?_
         refine TA.take 50 rfl (by kernel_rfl) rfl (PQ.then_ PQ.body) (Wt.yes rfl rfl rfl hk587) (Val.fieldAddrE Tryd.underlying37 rfl fsz33 rfl rfl) (fun W hO => (hb504 _ _ (hb555 _ _ (hb562 _ _ (hb581 _ _ hO)))).selT (Ls := [Blk b3 [.int .i64 0, .slice (some ⟨b2, 0, none⟩) 1 1] 27]) [4] 5 rfl rfl rfl) ?_
         refine TA.take 51 rfl (by kernel_rfl) rfl (PQ.then_ PQ.body) (Wt.yes rfl rfl rfl hk587) (Val.loadS agg33 rfl (hcl526 0 _ rfl)) (fun W hO => (hb504 _ _ (hb555 _ _ (hb562 _ _ (hb581 _ _ hO)))).selT (Ls := [Blk b3 [.int .i64 0, .slice (some ⟨b2, 0, none⟩) 1 1] 27]) [4] 5 rfl rfl rfl) ?_
         refine TA.take 52 rfl (by kernel_rfl) rfl (PQ.then_ PQ.body) (Wt.yes rfl rfl rfl hk587) (Val.indexAddr Tryd.underlying33 fsz40 rfl hA536 rfl hi537 hj538) (fun W hO => (hb504 _ _ (hb555 _ _ (hb562 _ _ (hb581 _ _ hO)))).selT (Ls := [Blk b3 [.int .i64 0, .slice (some ⟨b2, 0, none⟩) 1 1] 27]) [4] 5 rfl rfl rfl) ?_
         refine TA.take 53 rfl (by kernel_rfl) rfl (PQ.then_ PQ.body) (Wt.yes rfl rfl rfl hk587) (Val.loadsS (cs := [.int .i64 y533.f0, .int .i64 y533.f1, .int .i64 y533.f2, .int .i64 y533.f3, .int .i64 y533.f4, .slice A542 y533.f5.length c543]) agg40 fsz40 rfl rfl (Cl.sub (off := 0) (n := 6) hcl539 rfl)) (fun W hO => (hb504 _ _ (hb555 _ _ (hb562 _ _ (hb581 _ _ hO)))).selT (Ls := [Blk b3 [.int .i64 0, .slice (some ⟨b2, 0, none⟩) 1 1] 27]) [4] 5 rfl rfl rfl) ?_
         obtain ⟨y588, hy589, h⟩ := bind_no h
         refine TA.eff 54 rfl (by kernel_rfl) rfl (TL.callV (Lin := []) (args := [.agg #[.int .i64 y533.f0, .int .i64 y533.f1, .int .i64 y533.f2, .int .i64 y533.f3, .int .i64 y533.f4, .slice A542 y533.f5.length c543]]) (Wt.yes rfl rfl rfl hk587) rfl rfl hbd20 rfl rfl (code_Pure.calls (a0 := y533) (hr544.up (Gd.le.trans (Gd.le.trans (Gd.le.trans e502 e553) e560) e579)) hl545 hy589) rfl ?_)
         rintro _ _ _ _ ⟨rfl, rfl, rfl⟩
         refine TA.next (fun W hO => (hb504 _ _ (hb555 _ _ (hb562 _ _ (hb581 _ _ hO)))).selT (Ls := [Blk b3 [.int .i64 0, .slice (some ⟨b2, 0, none⟩) 1 1] 27]) [4] 5 rfl rfl rfl) ?_
         refine TA.take 55 rfl (by kernel_rfl) rfl (PQ.then_ PQ.body) rfl (Val.pickY rfl hk587 rfl) (fun W hO => (hb504 _ _ (hb555 _ _ (hb562 _ _ (hb581 _ _ hO)))).selT (Ls := [Blk b3 [.int .i64 0, .slice (some ⟨b2, 0, none⟩) 1 1] 27]) [4] 5 rfl rfl rfl) ?_
         refine TA.take 56 rfl (by kernel_rfl) rfl (PQ.then_ PQ.body) rfl (Val.assign rfl) (fun W hO => (hb504 _ _ (hb555 _ _ (hb562 _ _ (hb581 _ _ hO)))).selT (Ls := [Blk b3 [.int .i64 0, .slice (some ⟨b2, 0, none⟩) 1 1] 27]) [4] 5 rfl rfl rfl) ?_
         refine TA.done (by kernel_rfl) ?_
         refine TQ.then_ ?_
         refine TC.ret ?_
         refine TQ.back hb581 ?_
         refine TQ.back hb562 ?_
         refine TQ.back hb555 ?_
         refine TQ.back hb504 ?_
         refine TQ.back hb492 ?_
         obtain rfl := Option.some.inj h
         exact TQ.fin (.inl rfl) rfl Tryd.results7 (.tmp rfl .nil) rfl (FRel.mk (Ls := []) [] 6 (Gd.le.refl _) rfl rfl rfl ⟨rfl, rfl, rfl⟩)
        ·
         have hk590 : y584 = false := (by simpa using hg586)
         refine TA.not 47 rfl (by kernel_rfl) rfl (PQ.then_ PQ.body) (Wt.no rfl rfl rfl hk590) (fun W hO => (hb504 _ _ (hb555 _ _ (hb562 _ _ (hb581 _ _ hO)))).selT (Ls := [Blk b3 [.int .i64 0, .slice (some ⟨b2, 0, none⟩) 1 1] 27]) [4] 5 rfl rfl rfl) ?_
         refine TA.not 48 rfl (by kernel_rfl) rfl (PQ.then_ PQ.body) (Wt.no rfl rfl rfl hk590) (fun W hO => (hb504 _ _ (hb555 _ _ (hb562 _ _ (hb581 _ _ hO)))).selT (Ls := [Blk b3 [.int .i64 0, .slice (some ⟨b2, 0, none⟩) 1 1] 27]) [4] 5 rfl rfl rfl) ?_
         refine TA.not 49 rfl (by kernel_rfl) rfl (PQ.then_ PQ.body) (Wt.no rfl rfl rfl hk590) (fun W hO => (hb504 _ _ (hb555 _ _ (hb562 _ _ (hb581 _ _ hO)))).selT (Ls := [Blk b3 [.int .i64 0, .slice (some ⟨b2, 0, none⟩) 1 1] 27]) [4] 5 rfl rfl rfl) ?_
         refine TA.not 50 rfl (by kernel_rfl) rfl (PQ.then_ PQ.body) (Wt.no rfl rfl rfl hk590) (fun W hO => (hb504 _ _ (hb555 _ _ (hb562 _ _ (hb581 _ _ hO)))).selT (Ls := [Blk b3 [.int .i64 0, .slice (some ⟨b2, 0, none⟩) 1 1] 27]) [4] 5 rfl rfl rfl) ?_
         refine TA.not 51 rfl (by kernel_rfl) rfl (PQ.then_ PQ.body) (Wt.no rfl rfl rfl hk590) (fun W hO => (hb504 _ _ (hb555 _ _ (hb562 _ _ (hb581 _ _ hO)))).selT (Ls := [Blk b3 [.int .i64 0, .slice (some ⟨b2, 0, none⟩) 1 1] 27]) [4] 5 rfl rfl rfl) ?_
         refine TA.not 52 rfl (by kernel_rfl) rfl (PQ.then_ PQ.body) (Wt.no rfl rfl rfl hk590) (fun W hO => (hb504 _ _ (hb555 _ _ (hb562 _ _ (hb581 _ _ hO)))).selT (Ls := [Blk b3 [.int .i64 0, .slice (some ⟨b2, 0, none⟩) 1 1] 27]) [4] 5 rfl rfl rfl) ?_
         refine TA.not 53 rfl (by kernel_rfl) rfl (PQ.then_ PQ.body) (Wt.no rfl rfl rfl hk590) (fun W hO => (hb504 _ _ (hb555 _ _ (hb562 _ _ (hb581 _ _ hO)))).selT (Ls := [Blk b3 [.int .i64 0, .slice (some ⟨b2, 0, none⟩) 1 1] 27]) [4] 5 rfl rfl rfl) ?_
         refine TA.not 54 rfl (by kernel_rfl) rfl (PQ.then_ PQ.body) (Wt.no rfl rfl rfl hk590) (fun W hO => (hb504 _ _ (hb555 _ _ (hb562 _ _ (hb581 _ _ hO)))).selT (Ls := [Blk b3 [.int .i64 0, .slice (some ⟨b2, 0, none⟩) 1 1] 27]) [4] 5 rfl rfl rfl) ?_
         refine TA.take 55 rfl (by kernel_rfl) rfl (PQ.then_ PQ.body) rfl (Val.pickN rfl hk590 rfl) (fun W hO => (hb504 _ _ (hb555 _ _ (hb562 _ _ (hb581 _ _ hO)))).selT (Ls := [Blk b3 [.int .i64 0, .slice (some ⟨b2, 0, none⟩) 1 1] 27]) [4] 5 rfl rfl rfl) ?_
         refine TA.take 56 rfl (by kernel_rfl) rfl (PQ.then_ PQ.body) rfl (Val.assign rfl) (fun W hO => (hb504 _ _ (hb555 _ _ (hb562 _ _ (hb581 _ _ hO)))).selT (Ls := [Blk b3 [.int .i64 0, .slice (some ⟨b2, 0, none⟩) 1 1] 27]) [4] 5 rfl rfl rfl) ?_
         refine TA.done (by kernel_rfl) ?_
         refine TQ.then_ ?_
         refine TC.ret ?_
         refine TQ.back hb581 ?_
         refine TQ.back hb562 ?_
         refine TQ.back hb555 ?_
         refine TQ.back hb504 ?_
         refine TQ.back hb492 ?_
         obtain rfl := Option.some.inj h
         exact TQ.fin (.inl rfl) rfl Tryd.results7 (.tmp rfl .nil) rfl (FRel.mk (Ls := []) [] 6 (Gd.le.refl _) rfl rfl rfl ⟨rfl, rfl, rfl⟩)
       ·
        have hk591 : decide (y569 = 3) = false := decide_eq_false hg571
        refine TA.not 41 rfl (by kernel_rfl) rfl (PQ.then_ PQ.body) (Wt.no rfl rfl rfl hk591) (fun W hO => (hb504 _ _ (hb555 _ _ (hb562 _ _ hO))).selT (Ls := [Blk b3 [.int .i64 0, .slice (some ⟨b2, 0, none⟩) 1 1] 27]) [3] 4 rfl rfl rfl) ?_
        refine TA.not 42 rfl (by kernel_rfl) rfl (PQ.then_ PQ.body) (Wt.no rfl rfl rfl hk591) (fun W hO => (hb504 _ _ (hb555 _ _ (hb562 _ _ hO))).selT (Ls := [Blk b3 [.int .i64 0, .slice (some ⟨b2, 0, none⟩) 1 1] 27]) [3] 4 rfl rfl rfl) ?_
        refine TA.not 43 rfl (by kernel_rfl) rfl (PQ.then_ PQ.body) (Wt.no rfl rfl rfl hk591) (fun W hO => (hb504 _ _ (hb555 _ _ (hb562 _ _ hO))).selT (Ls := [Blk b3 [.int .i64 0, .slice (some ⟨b2, 0, none⟩) 1 1] 27]) [3] 4 rfl rfl rfl) ?_
        refine TA.not 44 rfl (by kernel_rfl) rfl (PQ.then_ PQ.body) (Wt.no rfl rfl rfl hk591) (fun W hO => (hb504 _ _ (hb555 _ _ (hb562 _ _ hO))).selT (Ls := [Blk b3 [.int .i64 0, .slice (some ⟨b2, 0, none⟩) 1 1] 27]) [3] 4 rfl rfl rfl) ?_
        refine TA.take 45 rfl (by kernel_rfl) rfl (PQ.then_ PQ.body) rfl (Val.pickN rfl hk591 rfl) (fun W hO => (hb504 _ _ (hb555 _ _ (hb562 _ _ hO))).selT (Ls := [Blk b3 [.int .i64 0, .slice (some ⟨b2, 0, none⟩) 1 1] 27]) [3] 4 rfl rfl rfl) ?_
        refine TA.take 46 rfl (by kernel_rfl) rfl (PQ.then_ PQ.body) rfl (Val.move rfl) (fun W hO => (hb504 _ _ (hb555 _ _ (hb562 _ _ hO))).selT (Ls := [Blk b3 [.int .i64 0, .slice (some ⟨b2, 0, none⟩) 1 1] 27]) [3] 4 rfl rfl rfl) ?_
        refine TA.not 47 rfl (by kernel_rfl) rfl (PQ.then_ PQ.body) (Wt.no rfl rfl rfl rfl) (fun W hO => (hb504 _ _ (hb555 _ _ (hb562 _ _ hO))).selT (Ls := [Blk b3 [.int .i64 0, .slice (some ⟨b2, 0, none⟩) 1 1] 27]) [3] 4 rfl rfl rfl) ?_
        refine TA.not 48 rfl (by kernel_rfl) rfl (PQ.then_ PQ.body) (Wt.no rfl rfl rfl rfl) (fun W hO => (hb504 _ _ (hb555 _ _ (hb562 _ _ hO))).selT (Ls := [Blk b3 [.int .i64 0, .slice (some ⟨b2, 0, none⟩) 1 1] 27]) [3] 4 rfl rfl rfl) ?_
        refine TA.not 49 rfl (by kernel_rfl) rfl (PQ.then_ PQ.body) (Wt.no rfl rfl rfl rfl) (fun W hO => (hb504 _ _ (hb555 _ _ (hb562 _ _ hO))).selT (Ls := [Blk b3 [.int .i64 0, .slice (some ⟨b2, 0, none⟩) 1 1] 27]) [3] 4 rfl rfl rfl) ?_
        refine TA.not 50 rfl (by kernel_rfl) rfl (PQ.then_ PQ.body) (Wt.no rfl rfl rfl rfl) (fun W hO => (hb504 _ _ (hb555 _ _ (hb562 _ _ hO))).selT (Ls := [Blk b3 [.int .i64 0, .slice (some ⟨b2, 0, none⟩) 1 1] 27]) [3] 4 rfl rfl rfl) ?_
        refine TA.not 51 rfl (by kernel_rfl) rfl (PQ.then_ PQ.body) (Wt.no rfl rfl rfl rfl) (fun W hO => (hb504 _ _ (hb555 _ _ (hb562 _ _ hO))).selT (Ls := [Blk b3 [.int .i64 0, .slice (some ⟨b2, 0, none⟩) 1 1] 27]) [3] 4 rfl rfl rfl) ?_
        refine TA.not 52 rfl (by kernel_rfl) rfl (PQ.then_ PQ.body) (Wt.no rfl rfl rfl rfl) (fun W hO => (hb504 _ _ (hb555 _ _ (hb562 _ _ hO))).selT (Ls := [Blk b3 [.int .i64 0, .slice (some ⟨b2, 0, none⟩) 1 1] 27]) [3] 4 rfl rfl rfl) ?_
        refine TA.not 53 rfl (by kernel_rfl) rfl (PQ.then_ PQ.body) (Wt.no rfl rfl rfl rfl) (fun W hO => (hb504 _ _ (hb555 _ _ (hb562 _ _ hO))).selT (Ls := [Blk b3 [.int .i64 0, .slice (some ⟨b2, 0, none⟩) 1 1] 27]) [3] 4 rfl rfl rfl) ?_
        refine TA.not 54 rfl (by kernel_rfl) rfl (PQ.then_ PQ.body) (Wt.no rfl rfl rfl rfl) (fun W hO => (hb504 _ _ (hb555 _ _ (hb562 _ _ hO))).selT (Ls := [Blk b3 [.int .i64 0, .slice (some ⟨b2, 0, none⟩) 1 1] 27]) [3] 4 rfl rfl rfl) ?_
        refine TA.take 55 rfl (by kernel_rfl) rfl (PQ.then_ PQ.body) rfl (Val.pickN rfl rfl rfl) (fun W hO => (hb504 _ _ (hb555 _ _ (hb562 _ _ hO))).selT (Ls := [Blk b3 [.int .i64 0, .slice (some ⟨b2, 0, none⟩) 1 1] 27]) [3] 4 rfl rfl rfl) ?_
        refine TA.take 56 rfl (by kernel_rfl) rfl (PQ.then_ PQ.body) rfl (Val.assign rfl) (fun W hO => (hb504 _ _ (hb555 _ _ (hb562 _ _ hO))).selT (Ls := [Blk b3 [.int .i64 0, .slice (some ⟨b2, 0, none⟩) 1 1] 27]) [3] 4 rfl rfl rfl) ?_
        refine TA.done (by kernel_rfl) ?_
        refine TQ.then_ ?_
        refine TC.ret ?_
        refine TQ.back hb562 ?_
        refine TQ.back hb555 ?_
        refine TQ.back hb504 ?_
        refine TQ.back hb492 ?_
        obtain rfl := Option.some.inj h
        exact TQ.fin (.inl rfl) rfl Tryd.results7 (.tmp rfl .nil) rfl (FRel.mk (Ls := []) [] 5 (Gd.le.refl _) rfl rfl rfl ⟨rfl, rfl, rfl⟩)
      ·
       have hk592 : y565 = false := (by simpa using hg567)
       refine TA.not 30 rfl (by kernel_rfl) rfl (PQ.then_ PQ.body) (Wt.no rfl rfl rfl hk592) (fun W hO => (hb504 _ _ (hb555 _ _ (hb562 _ _ hO))).selT (Ls := [Blk b3 [.int .i64 0, .slice (some ⟨b2, 0, none⟩) 1 1] 27]) [3] 4 rfl rfl rfl) ?_
       refine TA.not 31 rfl (by kernel_rfl) rfl (PQ.then_ PQ.body) (Wt.no rfl rfl rfl hk592) (fun W hO => (hb504 _ _ (hb555 _ _ (hb562 _ _ hO))).selT (Ls := [Blk b3 [.int .i64 0, .slice (some ⟨b2, 0, none⟩) 1 1] 27]) [3] 4 rfl rfl rfl) ?_
       refine TA.not 32 rfl (by kernel_rfl) rfl (PQ.then_ PQ.body) (Wt.no rfl rfl rfl hk592) (fun W hO => (hb504 _ _ (hb555 _ _ (hb562 _ _ hO))).selT (Ls := [Blk b3 [.int .i64 0, .slice (some ⟨b2, 0, none⟩) 1 1] 27]) [3] 4 rfl rfl rfl) ?_
       refine TA.not 33 rfl (by kernel_rfl) rfl (PQ.then_ PQ.body) (Wt.no rfl rfl rfl hk592) (fun W hO => (hb504 _ _ (hb555 _ _ (hb562 _ _ hO))).selT (Ls := [Blk b3 [.int .i64 0, .slice (some ⟨b2, 0, none⟩) 1 1] 27]) [3] 4 rfl rfl rfl) ?_
       refine TA.not 34 rfl (by kernel_rfl) rfl (PQ.then_ PQ.body) (Wt.no rfl rfl rfl hk592) (fun W hO => (hb504 _ _ (hb555 _ _ (hb562 _ _ hO))).selT (Ls := [Blk b3 [.int .i64 0, .slice (some ⟨b2, 0, none⟩) 1 1] 27]) [3] 4 rfl rfl rfl) ?_
       refine TA.not 35 rfl (by kernel_rfl) rfl (PQ.then_ PQ.body) (Wt.no rfl rfl rfl hk592) (fun W hO => (hb504 _ _ (hb555 _ _ (hb562 _ _ hO))).selT (Ls := [Blk b3 [.int .i64 0, .slice (some ⟨b2, 0, none⟩) 1 1] 27]) [3] 4 rfl rfl rfl) ?_
       refine TA.not 36 rfl (by kernel_rfl) rfl (PQ.then_ PQ.body) (Wt.no rfl rfl rfl hk592) (fun W hO => (hb504 _ _ (hb555 _ _ (hb562 _ _ hO))).selT (Ls := [Blk b3 [.int .i64 0, .slice (some ⟨b2, 0, none⟩) 1 1] 27]) [3] 4 rfl rfl rfl) ?_
       refine TA.not 37 rfl (by kernel_rfl) rfl (PQ.then_ PQ.body) (Wt.no rfl rfl rfl hk592) (fun W hO => (hb504 _ _ (hb555 _ _ (hb562 _ _ hO))).selT (Ls := [Blk b3 [.int .i64 0, .slice (some ⟨b2, 0, none⟩) 1 1] 27]) [3] 4 rfl rfl rfl) ?_
       refine TA.not 38 rfl (by kernel_rfl) rfl (PQ.then_ PQ.body) (Wt.no rfl rfl rfl hk592) (fun W hO => (hb504 _ _ (hb555 _ _ (hb562 _ _ hO))).selT (Ls := [Blk b3 [.int .i64 0, .slice (some ⟨b2, 0, none⟩) 1 1] 27]) [3] 4 rfl rfl rfl) ?_
       refine TA.take 39 rfl (by kernel_rfl) rfl (PQ.then_ PQ.body) rfl (Val.pickN rfl hk592 rfl) (fun W hO => (hb504 _ _ (hb555 _ _ (hb562 _ _ hO))).selT (Ls := [Blk b3 [.int .i64 0, .slice (some ⟨b2, 0, none⟩) 1 1] 27]) [3] 4 rfl rfl rfl) ?_
       refine TA.take 40 rfl (by kernel_rfl) rfl (PQ.then_ PQ.body) rfl (Val.move rfl) (fun W hO => (hb504 _ _ (hb555 _ _ (hb562 _ _ hO))).selT (Ls := [Blk b3 [.int .i64 0, .slice (some ⟨b2, 0, none⟩) 1 1] 27]) [3] 4 rfl rfl rfl) ?_
       refine TA.not 41 rfl (by kernel_rfl) rfl (PQ.then_ PQ.body) (Wt.no rfl rfl rfl rfl) (fun W hO => (hb504 _ _ (hb555 _ _ (hb562 _ _ hO))).selT (Ls := [Blk b3 [.int .i64 0, .slice (some ⟨b2, 0, none⟩) 1 1] 27]) [3] 4 rfl rfl rfl) ?_
       refine TA.not 42 rfl (by kernel_rfl) rfl (PQ.then_ PQ.body) (Wt.no rfl rfl rfl rfl) (fun W hO => (hb504 _ _ (hb555 _ _ (hb562 _ _ hO))).selT (Ls := [Blk b3 [.int .i64 0, .slice (some ⟨b2, 0, none⟩) 1 1] 27]) [3] 4 rfl rfl rfl) ?_
       refine TA.not 43 rfl (by kernel_rfl) rfl (PQ.then_ PQ.body) (Wt.no rfl rfl rfl rfl) (fun W hO => (hb504 _ _ (hb555 _ _ (hb562 _ _ hO))).selT (Ls := [Blk b3 [.int .i64 0, .slice (some ⟨b2, 0, none⟩) 1 1] 27]) [3] 4 rfl rfl rfl) ?_
       refine TA.not 44 rfl (by kernel_rfl) rfl (PQ.then_ PQ.body) (Wt.no rfl rfl rfl rfl) (fun W hO => (hb504 _ _ (hb555 _ _ (hb562 _ _ hO))).selT (Ls := [Blk b3 [.int .i64 0, .slice (some ⟨b2, 0, none⟩) 1 1] 27]) [3] 4 rfl rfl rfl) ?_
       refine TA.take 45 rfl (by kernel_rfl) rfl (PQ.then_ PQ.body) rfl (Val.pickN rfl rfl rfl) (fun W hO => (hb504 _ _ (hb555 _ _ (hb562 _ _ hO))).selT (Ls := [Blk b3 [.int .i64 0, .slice (some ⟨b2, 0, none⟩) 1 1] 27]) [3] 4 rfl rfl rfl) ?_
       refine TA.take 46 rfl (by kernel_rfl) rfl (PQ.then_ PQ.body) rfl (Val.move rfl) (fun W hO => (hb504 _ _ (hb555 _ _ (hb562 _ _ hO))).selT (Ls := [Blk b3 [.int .i64 0, .slice (some ⟨b2, 0, none⟩) 1 1] 27]) [3] 4 rfl rfl rfl) ?_
       refine TA.not 47 rfl (by kernel_rfl) rfl (PQ.then_ PQ.body) (Wt.no rfl rfl rfl rfl) (fun W hO => (hb504 _ _ (hb555 _ _ (hb562 _ _ hO))).selT (Ls := [Blk b3 [.int .i64 0, .slice (some ⟨b2, 0, none⟩) 1 1] 27]) [3] 4 rfl rfl rfl) ?_
       refine TA.not 48 rfl (by kernel_rfl) rfl (PQ.then_ PQ.body) (Wt.no rfl rfl rfl rfl) (fun W hO => (hb504 _ _ (hb555 _ _ (hb562 _ _ hO))).selT (Ls := [Blk b3 [.int .i64 0, .slice (some ⟨b2, 0, none⟩) 1 1] 27]) [3] 4 rfl rfl rfl) ?_
       refine TA.not 49 rfl (by kernel_rfl) rfl (PQ.then_ PQ.body) (Wt.no rfl rfl rfl rfl) (fun W hO => (hb504 _ _ (hb555 _ _ (hb562 _ _ hO))).selT (Ls := [Blk b3 [.int .i64 0, .slice (some ⟨b2, 0, none⟩) 1 1] 27]) [3] 4 rfl rfl rfl) ?_
       refine TA.not 50 rfl (by kernel_rfl) rfl (PQ.then_ PQ.body) (Wt.no rfl rfl rfl rfl) (fun W hO => (hb504 _ _ (hb555 _ _ (hb562 _ _ hO))).selT (Ls := [Blk b3 [.int .i64 0, .slice (some ⟨b2, 0, none⟩) 1 1] 27]) [3] 4 rfl rfl rfl) ?_
       refine TA.not 51 rfl (by kernel_rfl) rfl (PQ.then_ PQ.body) (Wt.no rfl rfl rfl rfl) (fun W hO => (hb504 _ _ (hb555 _ _ (hb562 _ _ hO))).selT (Ls := [Blk b3 [.int .i64 0, .slice (some ⟨b2, 0, none⟩) 1 1] 27]) [3] 4 rfl rfl rfl) ?_
       refine TA.not 52 rfl (by kernel_rfl) rfl (PQ.then_ PQ.body) (Wt.no rfl rfl rfl rfl) (fun W hO => (hb504 _ _ (hb555 _ _ (hb562 _ _ hO))).selT (Ls := [Blk b3 [.int .i64 0, .slice (some ⟨b2, 0, none⟩) 1 1] 27]) [3] 4 rfl rfl rfl) ?_
       refine TA.not 53 rfl (by kernel_rfl) rfl (PQ.then_ PQ.body) (Wt.no rfl rfl rfl rfl) (fun W hO => (hb504 _ _ (hb555 _ _ (hb562 _ _ hO))).selT (Ls := [Blk b3 [.int .i64 0, .slice (some ⟨b2, 0, none⟩) 1 1] 27]) [3] 4 rfl rfl rfl) ?_
       refine TA.not 54 rfl (by kernel_rfl) rfl (PQ.then_ PQ.body) (Wt.no rfl rfl rfl rfl) (fun W hO => (hb504 _ _ (hb555 _ _ (hb562 _ _ hO))).selT (Ls := [Blk b3 [.int .i64 0, .slice (some ⟨b2, 0, none⟩) 1 1] 27]) [3] 4 rfl rfl rfl) ?_
       refine TA.take 55 rfl (by kernel_rfl) rfl (PQ.then_ PQ.body) rfl (Val.pickN rfl rfl rfl) (fun W hO => (hb504 _ _ (hb555 _ _ (hb562 _ _ hO))).selT (Ls := [Blk b3 [.int .i64 0, .slice (some ⟨b2, 0, none⟩) 1 1] 27]) [3] 4 rfl rfl rfl) ?_
       refine TA.take 56 rfl (by kernel_rfl) rfl (PQ.then_ PQ.body) rfl (Val.assign rfl) (fun W hO => (hb504 _ _ (hb555 _ _ (hb562 _ _ hO))).selT (Ls := [Blk b3 [.int .i64 0, .slice (some ⟨b2, 0, none⟩) 1 1] 27]) [3] 4 rfl rfl rfl) ?_
       refine TA.done (by kernel_rfl) ?_
       refine TQ.then_ ?_
       refine TC.ret ?_
       refine TQ.back hb562 ?_
       refine TQ.back hb555 ?_
       refine TQ.back hb504 ?_
       refine TQ.back hb492 ?_
       obtain rfl := Option.some.inj h
       exact TQ.fin (.inl rfl) rfl Tryd.results7 (.tmp rfl .nil) rfl (FRel.mk (Ls := []) [] 5 (Gd.le.refl _) rfl rfl rfl ⟨rfl, rfl, rfl⟩)
     ·
      refine TL.buildSlice (xs := [.const (.int .i64 1), .const (.int .i64 1)]) (vs := [.int .i64 1, .int .i64 1]) (cs := [.int .i64 1, .int .i64 1]) (Wt.yes rfl rfl rfl hk519) rfl Tryd.underlying38 zs3 rfl rfl rfl rfl rfl rfl rfl rfl (fun b593 => ?_)
      refine TA.next (fun W hO => (hb504 _ _ hO).selT (Ls := [Blk b3 [.int .i64 0, .slice (some ⟨b2, 0, none⟩) 1 1] 27]) [2] 3 rfl rfl rfl) ?_
      obtain ⟨y594, hy595, h⟩ := bind_no h
      refine TA.eff 25 rfl (by kernel_rfl) rfl (TL.callV (Lin := []) (args := [.agg #[.int .i64 y533.f0, .int .i64 y533.f1, .int .i64 y533.f2, .int .i64 y533.f3, .int .i64 y533.f4, .slice A542 y533.f5.length c543]]) (Wt.yes rfl rfl rfl hk519) rfl rfl hbd19 rfl rfl (code_Uses.calls (a0 := y533) (hr544.up e502) hl545 hy595) rfl ?_)
      rintro _ _ _ _ ⟨rfl, A596, c597, rfl, rfl⟩
      refine TA.next (fun W hO => (hb504 _ _ hO).selT (Ls := [Blk b3 [.int .i64 0, .slice (some ⟨b2, 0, none⟩) 1 1] 27]) [3] 4 rfl rfl rfl) ?_
      refine TK.share (fun G599 e600 hs601 hb602 => ?_)
      have rd603 : Rd G599 (Kd.int .i64) A596 y594 := Rd.row hs601
      have le604 : y594.length ≤ c597 := Row.le hs601
      refine TK.new (Els.nil (Kd.int .i64)) ?_
      refine TK.new (El.of (k := (Kd.int .i64)) (xv := 1) (cs := [.int .i64 1]) (fun W B => rfl)) ?_
      refine TK.sel (Ls := [Els (Kd.int .i64) [] [], El (Kd.int .i64) 1 [.int .i64 1], Blk b593 [.int .i64 1, .int .i64 1] 3, Blk b3 [.int .i64 0, .slice (some ⟨b2, 0, none⟩) 1 1] 27]) [1, 0, 2, 3] 4 rfl rfl rfl ?_
      refine TK.two (ch := Els (Kd.int .i64) [1] [.int .i64 1]) (Els.snoc (Kd.int .i64)) ?_
      refine TK.new (El.of (k := (Kd.int .i64)) (xv := 1) (cs := [.int .i64 1]) (fun W B => rfl)) ?_
      refine TK.sel (Ls := [Els (Kd.int .i64) [1] [.int .i64 1], El (Kd.int .i64) 1 [.int .i64 1], Blk b593 [.int .i64 1, .int .i64 1] 3, Blk b3 [.int .i64 0, .slice (some ⟨b2, 0, none⟩) 1 1] 27]) [1, 0, 2, 3] 4 rfl rfl rfl ?_
      refine TK.two (ch := Els (Kd.int .i64) [1, 1] [.int .i64 1, .int .i64 1]) (Els.snoc (Kd.int .i64)) ?_
      refine TK.sel (Ls := [Blk b593 [.int .i64 1, .int .i64 1] 3, Els (Kd.int .i64) [1, 1] [.int .i64 1, .int .i64 1], Blk b3 [.int .i64 0, .slice (some ⟨b2, 0, none⟩) 1 1] 27]) [1, 0, 2] 3 rfl rfl rfl ?_
      refine TK.two (ch := Row (Kd.int .i64) 3 (.slice (some ⟨b593, 0, none⟩) 2 2) ([1, 1] : List Int)) (Row.lit (Kd.int .i64) rfl rfl) ?_
      refine TK.share (fun G606 e607 hs608 hb609 => ?_)
      have rd610 : Rd G606 (Kd.int .i64) (some ⟨b593, 0, none⟩) ([1, 1] : List Int) := Rd.row hs608
      have le611 : ([1, 1] : List Int).length ≤ 2 := Row.le hs608
      obtain ⟨y612, hy613, h⟩ := bind_no h
      refine TA.eff 27 rfl (by kernel_rfl) rfl (TL.callV (Lin := []) (args := [.slice A596 y594.length c597, .slice (some ⟨b593, 0, none⟩) 2 2]) (Wt.yes rfl rfl rfl hk519) rfl rfl hbd21 rfl rfl (swageref02_Ints.calls (a0 := y594) (a1 := ([1, 1] : List Int)) (rd603.up e607) le604 rd610 le611 hy613) rfl ?_)
      rintro _ _ _ _ ⟨rfl, rfl, rfl⟩
      refine TA.next (fun W hO => (hb504 _ _ (hb602 _ _ (hb609 _ _ hO))).selT (Ls := [Blk b3 [.int .i64 0, .slice (some ⟨b2, 0, none⟩) 1 1] 27]) [3] 4 rfl rfl rfl) ?_
      refine TA.take 28 rfl (by kernel_rfl) rfl (PQ.then_ PQ.body) rfl (Val.pickY rfl hk519 rfl) (fun W hO => (hb504 _ _ (hb602 _ _ (hb609 _ _ hO))).selT (Ls := [Blk b3 [.int .i64 0, .slice (some ⟨b2, 0, none⟩) 1 1] 27]) [3] 4 rfl rfl rfl) ?_
      refine TA.take 29 rfl (by kernel_rfl) rfl (PQ.then_ PQ.body) rfl (Val.move rfl) (fun W hO => (hb504 _ _ (hb602 _ _ (hb609 _ _ hO))).selT (Ls := [Blk b3 [.int .i64 0, .slice (some ⟨b2, 0, none⟩) 1 1] 27]) [3] 4 rfl rfl rfl) ?_
      refine TK.split (p := y612 = true) h (fun hg614 h => ?_) (fun hg614 h => ?_)
      ·
       have hk615 : y612 = true := hg614
       refine TA.take 30 rfl (by kernel_rfl) rfl (PQ.then_ PQ.body) (Wt.yes rfl rfl rfl hk615) (Val.fieldAddrB Tryd.underlying27 rfl fsz25 rfl rfl rfl) (fun W hO => (hb504 _ _ (hb602 _ _ (hb609 _ _ hO))).selT (Ls := [Blk b3 [.int .i64 0, .slice (some ⟨b2, 0, none⟩) 1 1] 27]) [3] 4 rfl rfl rfl) ?_
       refine TA.take 31 rfl (by kernel_rfl) rfl (PQ.then_ PQ.body) (Wt.yes rfl rfl rfl hk615) (Val.loadB 0 agg25 rfl rfl rfl) (fun W hO => (hb504 _ _ (hb602 _ _ (hb609 _ _ hO))).selT (Ls := [Blk b3 [.int .i64 0, .slice (some ⟨b2, 0, none⟩) 1 1] 27]) [3] 4 rfl rfl rfl) ?_
       refine TA.take 32 rfl (by kernel_rfl) rfl (PQ.then_ PQ.body) (Wt.yes rfl rfl rfl hk615) (Val.indexAddr Tryd.underlying25 fsz37 rfl hA523 rfl hi524 hj525) (fun W hO => (hb504 _ _ (hb602 _ _ (hb609 _ _ hO))).selT (Ls := [Blk b3 [.int .i64 0, .slice (some ⟨b2, 0, none⟩) 1 1] 27]) [3] 4 rfl rfl rfl) ?_
       refine TA.take 33 rfl (by kernel_rfl) rfl (PQ.then_ PQ.body) (Wt.yes rfl rfl rfl hk615) (Val.fieldAddrE Tryd.underlying37 rfl fsz33 rfl rfl) (fun W hO => (hb504 _ _ (hb602 _ _ (hb609 _ _ hO))).selT (Ls := [Blk b3 [.int .i64 0, .slice (some ⟨b2, 0, none⟩) 1 1] 27]) [3] 4 rfl rfl rfl) ?_
       refine TA.take 34 rfl (by kernel_rfl) rfl (PQ.then_ PQ.body) (Wt.yes rfl rfl rfl hk615) (Val.loadS agg33 rfl (hcl526 0 _ rfl)) (fun W hO => (hb504 _ _ (hb602 _ _ (hb609 _ _ hO))).selT (Ls := [Blk b3 [.int .i64 0, .slice (some ⟨b2, 0, none⟩) 1 1] 27]) [3] 4 rfl rfl rfl) ?_
       refine TA.take 35 rfl (by kernel_rfl) rfl (PQ.then_ PQ.body) (Wt.yes rfl rfl rfl hk615) (Val.indexAddr Tryd.underlying33 fsz40 rfl hA536 rfl hi537 hj538) (fun W hO => (hb504 _ _ (hb602 _ _ (hb609 _ _ hO))).selT (Ls := [Blk b3 [.int .i64 0, .slice (some ⟨b2, 0, none⟩) 1 1] 27]) [3] 4 rfl rfl rfl) ?_
       refine TA.take 36 rfl (by kernel_rfl) rfl (PQ.then_ PQ.body) (Wt.yes rfl rfl rfl hk615) (Val.loadsS (cs := [.int .i64 y533.f0, .int .i64 y533.f1, .int .i64 y533.f2, .int .i64 y533.f3, .int .i64 y533.f4, .slice A542 y533.f5.length c543]) agg40 fsz40 rfl rfl (Cl.sub (off := 0) (n := 6) hcl539 rfl)) (fun W hO => (hb504 _ _ (hb602 _ _ (hb609 _ _ hO))).selT (Ls := [Blk b3 [.int .i64 0, .slice (some ⟨b2, 0, none⟩) 1 1] 27]) [3] 4 rfl rfl rfl) ?_
       obtain ⟨y616, hy617, h⟩ := bind_no h
       refine TA.eff 37 rfl (by kernel_rfl) rfl (TL.callV (Lin := []) (args := [.agg #[.int .i64 y533.f0, .int .i64 y533.f1, .int .i64 y533.f2, .int .i64 y533.f3, .int .i64 y533.f4, .slice A542 y533.f5.length c543]]) (Wt.yes rfl rfl rfl hk615) rfl rfl hbd18 rfl rfl (code_Sets.calls (a0 := y533) (hr544.up (Gd.le.trans (Gd.le.trans e502 e600) e607)) hl545 hy617) rfl ?_)
       rintro _ _ _ _ ⟨rfl, rfl, rfl⟩
       refine TA.next (fun W hO => (hb504 _ _ (hb602 _ _ (hb609 _ _ hO))).selT (Ls := [Blk b3 [.int .i64 0, .slice (some ⟨b2, 0, none⟩) 1 1] 27]) [3] 4 rfl rfl rfl) ?_
       refine TA.take 38 rfl (by kernel_rfl) rfl (PQ.then_ PQ.body) (Wt.yes rfl rfl rfl hk615) (Val.cmp rfl rfl run_eql) (fun W hO => (hb504 _ _ (hb602 _ _ (hb609 _ _ hO))).selT (Ls := [Blk b3 [.int .i64 0, .slice (some ⟨b2, 0, none⟩) 1 1] 27]) [3] 4 rfl rfl rfl) ?_
       refine TA.take 39 rfl (by kernel_rfl) rfl (PQ.then_ PQ.body) rfl (Val.pickY rfl hk615 rfl) (fun W hO => (hb504 _ _ (hb602 _ _ (hb609 _ _ hO))).selT (Ls := [Blk b3 [.int .i64 0, .slice (some ⟨b2, 0, none⟩) 1 1] 27]) [3] 4 rfl rfl rfl) ?_
       refine TA.take 40 rfl (by kernel_rfl) rfl (PQ.then_ PQ.body) rfl (Val.move rfl) (fun W hO => (hb504 _ _ (hb602 _ _ (hb609 _ _ hO))).selT (Ls := [Blk b3 [.int .i64 0, .slice (some ⟨b2, 0, none⟩) 1 1] 27]) [3] 4 rfl rfl rfl) ?_
       refine TK.split (p := y616 = 3) h (fun hg618 h => ?_) (fun hg618 h => ?_)
       ·
        have hk619 : decide (y616 = 3) = true := decide_eq_true hg618
        refine TA.take 41 rfl (by kernel_rfl) rfl (PQ.then_ PQ.body) (Wt.yes rfl rfl rfl hk619) (Val.loadsB 0 (cs := [.int .i64 0, .slice (some ⟨b2, 0, none⟩) 1 1]) agg27 fsz27 rfl rfl rfl rfl) (fun W hO => (hb504 _ _ (hb602 _ _ (hb609 _ _ hO))).selT (Ls := [Blk b3 [.int .i64 0, .slice (some ⟨b2, 0, none⟩) 1 1] 27]) [3] 4 rfl rfl rfl) ?_
        refine TA.take 42 rfl (by kernel_rfl) rfl (PQ.then_ PQ.body) (Wt.yes rfl rfl rfl hk619) (Val.loadsB 0 (cs := [.int .i64 0, .slice (some ⟨b2, 0, none⟩) 1 1]) agg27 fsz27 rfl rfl rfl rfl) (fun W hO => (hb504 _ _ (hb602 _ _ (hb609 _ _ hO))).selT (Ls := [Blk b3 [.int .i64 0, .slice (some ⟨b2, 0, none⟩) 1 1] 27]) [3] 4 rfl rfl rfl) ?_
        obtain ⟨y620, hy621, h⟩ := bind_no h
        refine TA.eff 43 rfl (by kernel_rfl) rfl (TL.callV (Lin := []) (args := [.agg #[.int .i64 0, .slice (some ⟨b2, 0, none⟩) 1 1]]) (Wt.yes rfl rfl rfl hk619) rfl rfl hbd10 rfl rfl (code_Copy.calls (a0 := (⟨0, ([(⟨([(⟨1, 1, 0, 0, 4, ([] : List Int)⟩ : S40), (⟨2, 3, 1, 1, 1, ([] : List Int)⟩ : S40), (⟨9, 0, 3, 0, 0, ([] : List Int)⟩ : S40)] : List S40), (⟨3, 1, 0, 0⟩ : S35)⟩ : S37)] : List S37)⟩ : S27)) (rd493.up (Gd.le.trans (Gd.le.trans e502 e600) e607)) le494 hy621) rfl ?_)
        rintro _ _ _ _ ⟨rfl, A622, c623, rfl, rfl⟩
        refine TA.next (fun W hO => (hb504 _ _ (hb602 _ _ (hb609 _ _ hO))).selT (Ls := [Blk b3 [.int .i64 0, .slice (some ⟨b2, 0, none⟩) 1 1] 27]) [4] 5 rfl rfl rfl) ?_
        refine TK.share (fun G625 e626 hs627 hb628 => ?_)
        have rd629 : Rd G625 k37 A622 y620.f1 := Rd.row hs627
        have le630 : y620.f1.length ≤ c623 := Row.le hs627
        obtain ⟨y631, hy632, h⟩ := bind_no h
        refine TA.eff 44 rfl (by kernel_rfl) rfl (TL.callV (Lin := []) (args := [.agg #[.int .i64 0, .slice (some ⟨b2, 0, none⟩) 1 1], .agg #[.int .i64 y620.f0, .slice A622 y620.f1.length c623]]) (Wt.yes rfl rfl rfl hk619) rfl rfl hbd13 rfl rfl (code_Same.calls (a0 := (⟨0, ([(⟨([(⟨1, 1, 0, 0, 4, ([] : List Int)⟩ : S40), (⟨2, 3, 1, 1, 1, ([] : List Int)⟩ : S40), (⟨9, 0, 3, 0, 0, ([] : List Int)⟩ : S40)] : List S40), (⟨3, 1, 0, 0⟩ : S35)⟩ : S37)] : List S37)⟩ : S27)) (a1 := y620) (rd493.up (Gd.le.trans (Gd.le.trans (Gd.le.trans e502 e600) e607) e626)) le494 rd629 le630 hy632) rfl ?_)
        rintro _ _ _ _ ⟨rfl, rfl, rfl⟩
        refine TA.next (fun W hO => (hb504 _ _ (hb602 _ _ (hb609 _ _ (hb628 _ _ hO)))).selT (Ls := [Blk b3 [.int .i64 0, .slice (some ⟨b2, 0, none⟩) 1 1] 27]) [4] 5 rfl rfl rfl) ?_
        refine TA.take 45 rfl (by kernel_rfl) rfl (PQ.then_ PQ.body) rfl (Val.pickY rfl hk619 rfl) (fun W hO => (hb504 _ _ (hb602 _ _ (hb609 _ _ (hb628 _ _ hO)))).selT (Ls := [Blk b3 [.int .i64 0, .slice (some ⟨b2, 0, none⟩) 1 1] 27]) [4] 5 rfl rfl rfl) ?_
        refine TA.take 46 rfl (by kernel_rfl) rfl (PQ.then_ PQ.body) rfl (Val.move rfl) (fun W hO => (hb504 _ _ (hb602 _ _ (hb609 _ _ (hb628 _ _ hO)))).selT (Ls := [Blk b3 [.int .i64 0, .slice (some ⟨b2, 0, none⟩) 1 1] 27]) [4] 5 rfl rfl rfl) ?_
        refine TK.split (p := y631 = true) h (fun hg633 h => ?_) (fun hg633 h => ?_)
        ·
         have hk634 : y631 = true := hg633
         refine TA.take 47 rfl (by kernel_rfl) rfl (PQ.then_ PQ.body) (Wt.yes rfl rfl rfl hk634) (Val.fieldAddrB Tryd.underlying27 rfl fsz25 rfl rfl rfl) (fun W hO => (hb504 _ _ (hb602 _ _ (hb609 _ _ (hb628 _ _ hO)))).selT (Ls := [Blk b3 [.int .i64 0, .slice (some ⟨b2, 0, none⟩) 1 1] 27]) [4] 5 rfl rfl rfl) ?_
         refine TA.take 48 rfl (by kernel_rfl) rfl (PQ.then_ PQ.body) (Wt.yes rfl rfl rfl hk634) (Val.loadB 0 agg25 rfl rfl rfl) (fun W hO => (hb504 _ _ (hb602 _ _ (hb609 _ _ (hb628 _ _ hO)))).selT (Ls := [Blk b3 [.int .i64 0, .slice (some ⟨b2, 0, none⟩) 1 1] 27]) [4] 5 rfl rfl rfl) ?_
         refine TA.take 49 rfl (by kernel_rfl) rfl (PQ.then_ PQ.body) (Wt.yes rfl rfl rfl hk634) (Val.indexAddr Tryd.underlying25 fsz37 rfl hA523 rfl hi524 hj525) (fun W hO => (hb504 _ _ (hb602 _ _ (hb609 _ _ (hb628 _ _ hO)))).selT (Ls := [Blk b3 [.int .i64 0, .slice (some ⟨b2, 0, none⟩) 1 1] 27]) [4] 5 rfl rfl rfl) ?_
         refine TA.take 50 rfl (by kernel_rfl) rfl (PQ.then_ PQ.body) (Wt.yes rfl rfl rfl hk634) (Val.fieldAddrE Tryd.underlying37 rfl fsz33 rfl rfl) (fun W hO => (hb504 _ _ (hb602 _ _ (hb609 _ _ (hb628 _ _ hO)))).selT (Ls := [Blk b3 [.int .i64 0, .slice (some ⟨b2, 0, none⟩) 1 1] 27]) [4] 5 rfl rfl rfl) ?_
         refine TA.take 51 rfl (by kernel_rfl) rfl (PQ.then_ PQ.body) (Wt.yes rfl rfl rfl hk634) (Val.loadS agg33 rfl (hcl526 0 _ rfl)) (fun W hO => (hb504 _ _ (hb602 _ _ (hb609 _ _ (hb628 _ _ hO)))).selT (Ls := [Blk b3 [.int .i64 0, .slice (some ⟨b2, 0, none⟩) 1 1] 27]) [4] 5 rfl rfl rfl) ?_
         refine TA.take 52 rfl (by kernel_rfl) rfl (PQ.then_ PQ.body) (Wt.yes rfl rfl rfl hk634) (Val.indexAddr Tryd.underlying33 fsz40 rfl hA536 rfl hi537 hj538) (fun W hO => (hb504 _ _ (hb602 _ _ (hb609 _ _ (hb628 _ _ hO)))).selT (Ls := [Blk b3 [.int .i64 0, .slice (some ⟨b2, 0, none⟩) 1 1] 27]) [4] 5 rfl rfl rfl) ?_
         refine TA.take 53 rfl (by kernel_rfl) rfl (PQ.then_ PQ.body) (Wt.yes rfl rfl rfl hk634) (Val.loadsS (cs := [.int .i64 y533.f0, .int .i64 y533.f1, .int .i64 y533.f2, .int .i64 y533.f3, .int .i64 y533.f4, .slice A542 y533.f5.length c543]) agg40 fsz40 rfl rfl (Cl.sub (off := 0) (n := 6) hcl539 rfl)) (fun W hO => (hb504 _ _ (hb602 _ _ (hb609 _ _ (hb628 _ _ hO)))).selT (Ls := [Blk b3 [.int .i64 0, .slice (some ⟨b2, 0, none⟩) 1 1] 27]) [4] 5 rfl rfl rfl) ?_
         obtain ⟨y635, hy636, h⟩ := bind_no h
         refine TA.eff 54 rfl (by kernel_rfl) rfl (TL.callV (Lin := []) (args := [.agg #[.int .i64 y533.f0, .int .i64 y533.f1, .int .i64 y533.f2, .int .i64 y533.f3, .int .i64 y533.f4, .slice A542 y533.f5.length c543]]) (Wt.yes rfl rfl rfl hk634) rfl rfl hbd20 rfl rfl (code_Pure.calls (a0 := y533) (hr544.up (Gd.le.trans (Gd.le.trans (Gd.le.trans e502 e600) e607) e626)) hl545 hy636) rfl ?_)
         rintro _ _ _ _ ⟨rfl, rfl, rfl⟩
         refine TA.next (fun W hO => (hb504 _ _ (hb602 _ _ (hb609 _ _ (hb628 _ _ hO)))).selT (Ls := [Blk b3 [.int .i64 0, .slice (some ⟨b2, 0, none⟩) 1 1] 27]) [4] 5 rfl rfl rfl) ?_
         refine TA.take 55 rfl (by kernel_rfl) rfl (PQ.then_ PQ.body) rfl (Val.pickY rfl hk634 rfl) (fun W hO => (hb504 _ _ (hb602 _ _ (hb609 _ _ (hb628 _ _ hO)))).selT (Ls := [Blk b3 [.int .i64 0, .slice (some ⟨b2, 0, none⟩) 1 1] 27]) [4] 5 rfl rfl rfl) ?_
         refine TA.take 56 rfl (by kernel_rfl) rfl (PQ.then_ PQ.body) rfl (Val.assign rfl) (fun W hO => (hb504 _ _ (hb602 _ _ (hb609 _ _ (hb628 _ _ hO)))).selT (Ls := [Blk b3 [.int .i64 0, .slice (some ⟨b2, 0, none⟩) 1 1] 27]) [4] 5 rfl rfl rfl) ?_
         refine TA.done (by kernel_rfl) ?_
         refine TQ.then_ ?_
         refine TC.ret ?_
         refine TQ.back hb628 ?_
         refine TQ.back hb609 ?_
         refine TQ.back hb602 ?_
         refine TQ.back hb504 ?_
         refine TQ.back hb492 ?_
         obtain rfl := Option.some.inj h
         exact TQ.fin (.inl rfl) rfl Tryd.results7 (.tmp rfl .nil) rfl (FRel.mk (Ls := []) [] 6 (Gd.le.refl _) rfl rfl rfl ⟨rfl, rfl, rfl⟩)
        ·
         have hk637 : y631 = false := (by simpa using hg633)
         refine TA.not 47 rfl (by kernel_rfl) rfl (PQ.then_ PQ.body) (Wt.no rfl rfl rfl hk637) (fun W hO => (hb504 _ _ (hb602 _ _ (hb609 _ _ (hb628 _ _ hO)))).selT (Ls := [Blk b3 [.int .i64 0, .slice (some ⟨b2, 0, none⟩) 1 1] 27]) [4] 5 rfl rfl rfl) ?_
         refine TA.not 48 rfl (by kernel_rfl) rfl (PQ.then_ PQ.body) (Wt.no rfl rfl rfl hk637) (fun W hO => (hb504 _ _ (hb602 _ _ (hb609 _ _ (hb628 _ _ hO)))).selT (Ls := [Blk b3 [.int .i64 0, .slice (some ⟨b2, 0, none⟩) 1 1] 27]) [4] 5 rfl rfl rfl) ?_
         refine TA.not 49 rfl (by kernel_rfl) rfl (PQ.then_ PQ.body) (Wt.no rfl rfl rfl hk637) (fun W hO => (hb504 _ _ (hb602 _ _ (hb609 _ _ (hb628 _ _ hO)))).selT (Ls := [Blk b3 [.int .i64 0, .slice (some ⟨b2, 0, none⟩) 1 1] 27]) [4] 5 rfl rfl rfl) ?_
         refine TA.not 50 rfl (by kernel_rfl) rfl (PQ.then_ PQ.body) (Wt.no rfl rfl rfl hk637) (fun W hO => (hb504 _ _ (hb602 _ _ (hb609 _ _ (hb628 _ _ hO)))).selT (Ls := [Blk b3 [.int .i64 0, .slice (some ⟨b2, 0, none⟩) 1 1] 27]) [4] 5 rfl rfl rfl) ?_
         refine TA.not 51 rfl (by kernel_rfl) rfl (PQ.then_ PQ.body) (Wt.no rfl rfl rfl hk637) (fun W hO => (hb504 _ _ (hb602 _ _ (hb609 _ _ (hb628 _ _ hO)))).selT (Ls := [Blk b3 [.int .i64 0, .slice (some ⟨b2, 0, none⟩) 1 1] 27]) [4] 5 rfl rfl rfl) ?_
         refine TA.not 52 rfl (by kernel_rfl) rfl (PQ.then_ PQ.body) (Wt.no rfl rfl rfl hk637) (fun W hO => (hb504 _ _ (hb602 _ _ (hb609 _ _ (hb628 _ _ hO)))).selT (Ls := [Blk b3 [.int .i64 0, .slice (some ⟨b2, 0, none⟩) 1 1] 27]) [4] 5 rfl rfl rfl) ?_
         refine TA.not 53 rfl (by kernel_rfl) rfl (PQ.then_ PQ.body) (Wt.no rfl rfl rfl hk637) (fun W hO => (hb504 _ _ (hb602 _ _ (hb609 _ _ (hb628 _ _ hO)))).selT (Ls := [Blk b3 [.int .i64 0, .slice (some ⟨b2, 0, none⟩) 1 1] 27]) [4] 5 rfl rfl rfl) ?_
         refine TA.not 54 rfl (by kernel_rfl) rfl (PQ.then_ PQ.body) (Wt.no rfl rfl rfl hk637) (fun W hO => (hb504 _ _ (hb602 _ _ (hb609 _ _ (hb628 _ _ hO)))).selT (Ls := [Blk b3 [.int .i64 0, .slice (some ⟨b2, 0, none⟩) 1 1] 27]) [4] 5 rfl rfl rfl) ?_
         refine TA.take 55 rfl (by kernel_rfl) rfl (PQ.then_ PQ.body) rfl (Val.pickN rfl hk637 rfl) (fun W hO => (hb504 _ _ (hb602 _ _ (hb609 _ _ (hb628 _ _ hO)))).selT (Ls := [Blk b3 [.int .i64 0, .slice (some ⟨b2, 0, none⟩) 1 1] 27]) [4] 5 rfl rfl rfl) ?_
         refine TA.take 56 rfl (by kernel_rfl) rfl (PQ.then_ PQ.body) rfl (Val.assign rfl) (fun W hO => (hb504 _ _ (hb602 _ _ (hb609 _ _ (hb628 _ _ hO)))).selT (Ls := [Blk b3 [.int .i64 0, .slice (some ⟨b2, 0, none⟩) 1 1] 27]) [4] 5 rfl rfl rfl) ?_
         refine TA.done (by kernel_rfl) ?_
         refine TQ.then_ ?_
         refine TC.ret ?_
         refine TQ.back hb628 ?_
         refine TQ.back hb609 ?_
         refine TQ.back hb602 ?_
         refine TQ.back hb504 ?_
         refine TQ.back hb492 ?_
         obtain rfl := Option.some.inj h
         exact TQ.fin (.inl rfl) rfl Tryd.results7 (.tmp rfl .nil) rfl (FRel.mk (Ls := []) [] 6 (Gd.le.refl _) rfl rfl rfl ⟨rfl, rfl, rfl⟩)
       ·
        have hk638 : decide (y616 = 3) = false := decide_eq_false hg618
        refine TA.not 41 rfl (by kernel_rfl) rfl (PQ.then_ PQ.body) (Wt.no rfl rfl rfl hk638) (fun W hO => (hb504 _ _ (hb602 _ _ (hb609 _ _ hO))).selT (Ls := [Blk b3 [.int .i64 0, .slice (some ⟨b2, 0, none⟩) 1 1] 27]) [3] 4 rfl rfl rfl) ?_
        refine TA.not 42 rfl (by kernel_rfl) rfl (PQ.then_ PQ.body) (Wt.no rfl rfl rfl hk638) (fun W hO => (hb504 _ _ (hb602 _ _ (hb609 _ _ hO))).selT (Ls := [Blk b3 [.int .i64 0, .slice (some ⟨b2, 0, none⟩) 1 1] 27]) [3] 4 rfl rfl rfl) ?_
        refine TA.not 43 rfl (by kernel_rfl) rfl (PQ.then_ PQ.body) (Wt.no rfl rfl rfl hk638) (fun W hO => (hb504 _ _ (hb602 _ _ (hb609 _ _ hO))).selT (Ls := [Blk b3 [.int .i64 0, .slice (some ⟨b2, 0, none⟩) 1 1] 27]) [3] 4 rfl rfl rfl) ?_
        refine TA.not 44 rfl (by kernel_rfl) rfl (PQ.then_ PQ.body) (Wt.no rfl rfl rfl hk638) (fun W hO => (hb504 _ _ (hb602 _ _ (hb609 _ _ hO))).selT (Ls := [Blk b3 [.int .i64 0, .slice (some ⟨b2, 0, none⟩) 1 1] 27]) [3] 4 rfl rfl rfl) ?_
        refine TA.take 45 rfl (by kernel_rfl) rfl (PQ.then_ PQ.body) rfl (Val.pickN rfl hk638 rfl) (fun W hO => (hb504 _ _ (hb602 _ _ (hb609 _ _ hO))).selT (Ls := [Blk b3 [.int .i64 0, .slice (some ⟨b2, 0, none⟩) 1 1] 27]) [3] 4 rfl rfl rfl) ?_
        refine TA.take 46 rfl (by kernel_rfl) rfl (PQ.then_ PQ.body) rfl (Val.move rfl) (fun W hO => (hb504 _ _ (hb602 _ _ (hb609 _ _ hO))).selT (Ls := [Blk b3 [.int .i64 0, .slice (some ⟨b2, 0, none⟩) 1 1] 27]) [3] 4 rfl rfl rfl) ?_
        refine TA.not 47 rfl (by kernel_rfl) rfl (PQ.then_ PQ.body) (Wt.no rfl rfl rfl rfl) (fun W hO => (hb504 _ _ (hb602 _ _ (hb609 _ _ hO))).selT (Ls := [Blk b3 [.int .i64 0, .slice (some ⟨b2, 0, none⟩) 1 1] 27]) [3] 4 rfl rfl rfl) ?_
        refine TA.not 48 rfl (by kernel_rfl) rfl (PQ.then_ PQ.body) (Wt.no rfl rfl rfl rfl) (fun W hO => (hb504 _ _ (hb602 _ _ (hb609 _ _ hO))).selT (Ls := [Blk b3 [.int .i64 0, .slice (some ⟨b2, 0, none⟩) 1 1] 27]) [3] 4 rfl rfl rfl) ?_
        refine TA.not 49 rfl (by kernel_rfl) rfl (PQ.then_ PQ.body) (Wt.no rfl rfl rfl rfl) (fun W hO => (hb504 _ _ (hb602 _ _ (hb609 _ _ hO))).selT (Ls := [Blk b3 [.int .i64 0, .slice (some ⟨b2, 0, none⟩) 1 1] 27]) [3] 4 rfl rfl rfl) ?_
        refine TA.not 50 rfl (by kernel_rfl) rfl (PQ.then_ PQ.body) (Wt.no rfl rfl rfl rfl) (fun W hO => (hb504 _ _ (hb602 _ _ (hb609 _ _ hO))).selT (Ls := [Blk b3 [.int .i64 0, .slice (some ⟨b2, 0, none⟩) 1 1] 27]) [3] 4 rfl rfl rfl) ?_
        refine TA.not 51 rfl (by kernel_rfl) rfl (PQ.then_ PQ.body) (Wt.no rfl rfl rfl rfl) (fun W hO => (hb504 _ _ (hb602 _ _ (hb609 _ _ hO))).selT (Ls := [Blk b3 [.int .i64 0, .slice (some ⟨b2, 0, none⟩) 1 1] 27]) [3] 4 rfl rfl rfl) ?_
        refine TA.not 52 rfl (by kernel_rfl) rfl (PQ.then_ PQ.body) (Wt.no rfl rfl rfl rfl) (fun W hO => (hb504 _ _ (hb602 _ _ (hb609 _ _ hO))).selT (Ls := [Blk b3 [.int .i64 0, .slice (some ⟨b2, 0, none⟩) 1 1] 27]) [3] 4 rfl rfl rfl) ?_
        refine TA.not 53 rfl (by kernel_rfl) rfl (PQ.then_ PQ.body) (Wt.no rfl rfl rfl rfl) (fun W hO => (hb504 _ _ (hb602 _ _ (hb609 _ _ hO))).selT (Ls := [Blk b3 [.int .i64 0, .slice (some ⟨b2, 0, none⟩) 1 1] 27]) [3] 4 rfl rfl rfl) ?_
        refine TA.not 54 rfl (by kernel_rfl) rfl (PQ.then_ PQ.body) (Wt.no rfl rfl rfl rfl) (fun W hO => (hb504 _ _ (hb602 _ _ (hb609 _ _ hO))).selT (Ls := [Blk b3 [.int .i64 0, .slice (some ⟨b2, 0, none⟩) 1 1] 27]) [3] 4 rfl rfl rfl) ?_
        refine TA.take 55 rfl (by kernel_rfl) rfl (PQ.then_ PQ.body) rfl (Val.pickN rfl rfl rfl) (fun W hO => (hb504 _ _ (hb602 _ _ (hb609 _ _ hO))).selT (Ls := [Blk b3 [.int .i64 0, .slice (some ⟨b2, 0, none⟩) 1 1] 27]) [3] 4 rfl rfl rfl) ?_
        refine TA.take 56 rfl (by kernel_rfl) rfl (PQ.then_ PQ.body) rfl (Val.assign rfl) (fun W hO => (hb504 _ _ (hb602 _ _ (hb609 _ _ hO))).selT (Ls := [Blk b3 [.int .i64 0, .slice (some ⟨b2, 0, none⟩) 1 1] 27]) [3] 4 rfl rfl rfl) ?_
        refine TA.done (by kernel_rfl) ?_
        refine TQ.then_ ?_
        refine TC.ret ?_
        refine TQ.back hb609 ?_
        refine TQ.back hb602 ?_
        refine TQ.back hb504 ?_
        refine TQ.back hb492 ?_
        obtain rfl := Option.some.inj h
        exact TQ.fin (.inl rfl) rfl Tryd.results7 (.tmp rfl .nil) rfl (FRel.mk (Ls := []) [] 5 (Gd.le.refl _) rfl rfl rfl ⟨rfl, rfl, rfl⟩)
      ·
       have hk639 : y612 = false := (by simpa using hg614)
       refine TA.not 30 rfl (by kernel_rfl) rfl (PQ.then_ PQ.body) (Wt.no rfl rfl rfl hk639) (fun W hO => (hb504 _ _ (hb602 _ _ (hb609 _ _ hO))).selT (Ls := [Blk b3 [.int .i64 0, .slice (some ⟨b2, 0, none⟩) 1 1] 27]) [3] 4 rfl rfl rfl) ?_
       refine TA.not 31 rfl (by kernel_rfl) rfl (PQ.then_ PQ.body) (Wt.no rfl rfl rfl hk639) (fun W hO => (hb504 _ _ (hb602 _ _ (hb609 _ _ hO))).selT (Ls := [Blk b3 [.int .i64 0, .slice (some ⟨b2, 0, none⟩) 1 1] 27]) [3] 4 rfl rfl rfl) ?_
       refine TA.not 32 rfl (by kernel_rfl) rfl (PQ.then_ PQ.body) (Wt.no rfl rfl rfl hk639) (fun W hO => (hb504 _ _ (hb602 _ _ (hb609 _ _ hO))).selT (Ls := [Blk b3 [.int .i64 0, .slice (some ⟨b2, 0, none⟩) 1 1] 27]) [3] 4 rfl rfl rfl) ?_
       refine TA.not 33 rfl (by kernel_rfl) rfl (PQ.then_ PQ.body) (Wt.no rfl rfl rfl hk639) (fun W hO => (hb504 _ _ (hb602 _ _ (hb609 _ _ hO))).selT (Ls := [Blk b3 [.int .i64 0, .slice (some ⟨b2, 0, none⟩) 1 1] 27]) [3] 4 rfl rfl rfl) ?_
       refine TA.not 34 rfl (by kernel_rfl) rfl (PQ.then_ PQ.body) (Wt.no rfl rfl rfl hk639) (fun W hO => (hb504 _ _ (hb602 _ _ (hb609 _ _ hO))).selT (Ls := [Blk b3 [.int .i64 0, .slice (some ⟨b2, 0, none⟩) 1 1] 27]) [3] 4 rfl rfl rfl) ?_
       refine TA.not 35 rfl (by kernel_rfl) rfl (PQ.then_ PQ.body) (Wt.no rfl rfl rfl hk639) (fun W hO => (hb504 _ _ (hb602 _ _ (hb609 _ _ hO))).selT (Ls := [Blk b3 [.int .i64 0, .slice (some ⟨b2, 0, none⟩) 1 1] 27]) [3] 4 rfl rfl rfl) ?_
       refine TA.not 36 rfl (by kernel_rfl) rfl (PQ.then_ PQ.body) (Wt.no rfl rfl rfl hk639) (fun W hO => (hb504 _ _ (hb602 _ _ (hb609 _ _ hO))).selT (Ls := [Blk b3 [.int .i64 0, .slice (some ⟨b2, 0, none⟩) 1 1] 27]) [3] 4 rfl rfl rfl) ?_
       refine TA.not 37 rfl (by kernel_rfl) rfl (PQ.then_ PQ.body) (Wt.no rfl rfl rfl hk639) (fun W hO => (hb504 _ _ (hb602 _ _ (hb609 _ _ hO))).selT (Ls := [Blk b3 [.int .i64 0, .slice (some ⟨b2, 0, none⟩) 1 1] 27]) [3] 4 rfl rfl rfl) ?_
       refine TA.not 38 rfl (by kernel_rfl) rfl (PQ.then_ PQ.body) (Wt.no rfl rfl rfl hk639) (fun W hO => (hb504 _ _ (hb602 _ _ (hb609 _ _ hO))).selT (Ls := [Blk b3 [.int .i64 0, .slice (some ⟨b2, 0, none⟩) 1 1] 27]) [3] 4 rfl rfl rfl) ?_
       refine TA.take 39 rfl (by kernel_rfl) rfl (PQ.then_ PQ.body) rfl (Val.pickN rfl hk639 rfl) (fun W hO => (hb504 _ _ (hb602 _ _ (hb609 _ _ hO))).selT (Ls := [Blk b3 [.int .i64 0, .slice (some ⟨b2, 0, none⟩) 1 1] 27]) [3] 4 rfl rfl rfl) ?_
       refine TA.take 40 rfl (by kernel_rfl) rfl (PQ.then_ PQ.body) rfl (Val.move rfl) (fun W hO => (hb504 _ _ (hb602 _ _ (hb609 _ _ hO))).selT (Ls := [Blk b3 [.int .i64 0, .slice (some ⟨b2, 0, none⟩) 1 1] 27]) [3] 4 rfl rfl rfl) ?_
       refine TA.not 41 rfl (by kernel_rfl) rfl (PQ.then_ PQ.body) (Wt.no rfl rfl rfl rfl) (fun W hO => (hb504 _ _ (hb602 _ _ (hb609 _ _ hO))).selT (Ls := [Blk b3 [.int .i64 0, .slice (some ⟨b2, 0, none⟩) 1 1] 27]) [3] 4 rfl rfl rfl) ?_
       refine TA.not 42 rfl (by kernel_rfl) rfl (PQ.then_ PQ.body) (Wt.no rfl rfl rfl rfl) (fun W hO => (hb504 _ _ (hb602 _ _ (hb609 _ _ hO))).selT (Ls := [Blk b3 [.int .i64 0, .slice (some ⟨b2, 0, none⟩) 1 1] 27]) [3] 4 rfl rfl rfl) ?_
       refine TA.not 43 rfl (by kernel_rfl) rfl (PQ.then_ PQ.body) (Wt.no rfl rfl rfl rfl) (fun W hO => (hb504 _ _ (hb602 _ _ (hb609 _ _ hO))).selT (Ls := [Blk b3 [.int .i64 0, .slice (some ⟨b2, 0, none⟩) 1 1] 27]) [3] 4 rfl rfl rfl) ?_
       refine TA.not 44 rfl (by kernel_rfl) rfl (PQ.then_ PQ.body) (Wt.no rfl rfl rfl rfl) (fun W hO => (hb504 _ _ (hb602 _ _ (hb609 _ _ hO))).selT (Ls := [Blk b3 [.int .i64 0, .slice (some ⟨b2, 0, none⟩) 1 1] 27]) [3] 4 rfl rfl rfl) ?_
       refine TA.take 45 rfl (by kernel_rfl) rfl (PQ.then_ PQ.body) rfl (Val.pickN rfl rfl rfl) (fun W hO => (hb504 _ _ (hb602 _ _ (hb609 _ _ hO))).selT (Ls := [Blk b3 [.int .i64 0, .slice (some ⟨b2, 0, none⟩) 1 1] 27]) [3] 4 rfl rfl rfl) ?_
       refine TA.take 46 rfl (by kernel_rfl) rfl (PQ.then_ PQ.body) rfl (Val.move rfl) (fun W hO => (hb504 _ _ (hb602 _ _ (hb609 _ _ hO))).selT (Ls := [Blk b3 [.int .i64 0, .slice (some ⟨b2, 0, none⟩) 1 1] 27]) [3] 4 rfl rfl rfl) ?_
       refine TA.not 47 rfl (by kernel_rfl) rfl (PQ.then_ PQ.body) (Wt.no rfl rfl rfl rfl) (fun W hO => (hb504 _ _ (hb602 _ _ (hb609 _ _ hO))).selT (Ls := [Blk b3 [.int .i64 0, .slice (some ⟨b2, 0, none⟩) 1 1] 27]) [3] 4 rfl rfl rfl) ?_
       refine TA.not 48 rfl (by kernel_rfl) rfl (PQ.then_ PQ.body) (Wt.no rfl rfl rfl rfl) (fun W hO => (hb504 _ _ (hb602 _ _ (hb609 _ _ hO))).selT (Ls := [Blk b3 [.int .i64 0, .slice (some ⟨b2, 0, none⟩) 1 1] 27]) [3] 4 rfl rfl rfl) ?_
       refine TA.not 49 rfl (by kernel_rfl) rfl (PQ.then_ PQ.body) (Wt.no rfl rfl rfl rfl) (fun W hO => (hb504 _ _ (hb602 _ _ (hb609 _ _ hO))).selT (Ls := [Blk b3 [.int .i64 0, .slice (some ⟨b2, 0, none⟩) 1 1] 27]) [3] 4 rfl rfl rfl) ?_
       refine TA.not 50 rfl (by kernel_rfl) rfl (PQ.then_ PQ.body) (Wt.no rfl rfl rfl rfl) (fun W hO => (hb504 _ _ (hb602 _ _ (hb609 _ _ hO))).selT (Ls := [Blk b3 [.int .i64 0, .slice (some ⟨b2, 0, none⟩) 1 1] 27]) [3] 4 rfl rfl rfl) ?_
       refine TA.not 51 rfl (by kernel_rfl) rfl (PQ.then_ PQ.body) (Wt.no rfl rfl rfl rfl) (fun W hO => (hb504 _ _ (hb602 _ _ (hb609 _ _ hO))).selT (Ls := [Blk b3 [.int .i64 0, .slice (some ⟨b2, 0, none⟩) 1 1] 27]) [3] 4 rfl rfl rfl) ?_
       refine TA.not 52 rfl (by kernel_rfl) rfl (PQ.then_ PQ.body) (Wt.no rfl rfl rfl rfl) (fun W hO => (hb504 _ _ (hb602 _ _ (hb609 _ _ hO))).selT (Ls := [Blk b3 [.int .i64 0, .slice (some ⟨b2, 0, none⟩) 1 1] 27]) [3] 4 rfl rfl rfl) ?_
       refine TA.not 53 rfl (by kernel_rfl) rfl (PQ.then_ PQ.body) (Wt.no rfl rfl rfl rfl) (fun W hO => (hb504 _ _ (hb602 _ _ (hb609 _ _ hO))).selT (Ls := [Blk b3 [.int .i64 0, .slice (some ⟨b2, 0, none⟩) 1 1] 27]) [3] 4 rfl rfl rfl) ?_
       refine TA.not 54 rfl (by kernel_rfl) rfl (PQ.then_ PQ.body) (Wt.no rfl rfl rfl rfl) (fun W hO => (hb504 _ _ (hb602 _ _ (hb609 _ _ hO))).selT (Ls := [Blk b3 [.int .i64 0, .slice (some ⟨b2, 0, none⟩) 1 1] 27]) [3] 4 rfl rfl rfl) ?_
       refine TA.take 55 rfl (by kernel_rfl) rfl (PQ.then_ PQ.body) rfl (Val.pickN rfl rfl rfl) (fun W hO => (hb504 _ _ (hb602 _ _ (hb609 _ _ hO))).selT (Ls := [Blk b3 [.int .i64 0, .slice (some ⟨b2, 0, none⟩) 1 1] 27]) [3] 4 rfl rfl rfl) ?_
       refine TA.take 56 rfl (by kernel_rfl) rfl (PQ.then_ PQ.body) rfl (Val.assign rfl) (fun W hO => (hb504 _ _ (hb602 _ _ (hb609 _ _ hO))).selT (Ls := [Blk b3 [.int .i64 0, .slice (some ⟨b2, 0, none⟩) 1 1] 27]) [3] 4 rfl rfl rfl) ?_
       refine TA.done (by kernel_rfl) ?_
       refine TQ.then_ ?_
       refine TC.ret ?_
       refine TQ.back hb609 ?_
       refine TQ.back hb602 ?_
       refine TQ.back hb504 ?_
       refine TQ.back hb492 ?_
       obtain rfl := Option.some.inj h
       exact TQ.fin (.inl rfl) rfl Tryd.results7 (.tmp rfl .nil) rfl (FRel.mk (Ls := []) [] 5 (Gd.le.refl _) rfl rfl rfl ⟨rfl, rfl, rfl⟩)
    ·
     have hk640 : decide (y516 = 3) = false := decide_eq_false hg518
     refine TA.not 18 rfl (by kernel_rfl) rfl (PQ.then_ PQ.body) (Wt.no rfl rfl rfl hk640) (fun W hO => (hb504 _ _ hO).selT (Ls := [Blk b3 [.int .i64 0, .slice (some ⟨b2, 0, none⟩) 1 1] 27]) [1] 2 rfl rfl rfl) ?_
     refine TA.not 19 rfl (by kernel_rfl) rfl (PQ.then_ PQ.body) (Wt.no rfl rfl rfl hk640) (fun W hO => (hb504 _ _ hO).selT (Ls := [Blk b3 [.int .i64 0, .slice (some ⟨b2, 0, none⟩) 1 1] 27]) [1] 2 rfl rfl rfl) ?_
     refine TA.not 20 rfl (by kernel_rfl) rfl (PQ.then_ PQ.body) (Wt.no rfl rfl rfl hk640) (fun W hO => (hb504 _ _ hO).selT (Ls := [Blk b3 [.int .i64 0, .slice (some ⟨b2, 0, none⟩) 1 1] 27]) [1] 2 rfl rfl rfl) ?_
     refine TA.not 21 rfl (by kernel_rfl) rfl (PQ.then_ PQ.body) (Wt.no rfl rfl rfl hk640) (fun W hO => (hb504 _ _ hO).selT (Ls := [Blk b3 [.int .i64 0, .slice (some ⟨b2, 0, none⟩) 1 1] 27]) [1] 2 rfl rfl rfl) ?_
     refine TA.not 22 rfl (by kernel_rfl) rfl (PQ.then_ PQ.body) (Wt.no rfl rfl rfl hk640) (fun W hO => (hb504 _ _ hO).selT (Ls := [Blk b3 [.int .i64 0, .slice (some ⟨b2, 0, none⟩) 1 1] 27]) [1] 2 rfl rfl rfl) ?_
     refine TA.not 23 rfl (by kernel_rfl) rfl (PQ.then_ PQ.body) (Wt.no rfl rfl rfl hk640) (fun W hO => (hb504 _ _ hO).selT (Ls := [Blk b3 [.int .i64 0, .slice (some ⟨b2, 0, none⟩) 1 1] 27]) [1] 2 rfl rfl rfl) ?_
     refine TA.not 24 rfl (by kernel_rfl) rfl (PQ.then_ PQ.body) (Wt.no rfl rfl rfl hk640) (fun W hO => (hb504 _ _ hO).selT (Ls := [Blk b3 [.int .i64 0, .slice (some ⟨b2, 0, none⟩) 1 1] 27]) [1] 2 rfl rfl rfl) ?_
     refine TA.not 25 rfl (by kernel_rfl) rfl (PQ.then_ PQ.body) (Wt.no rfl rfl rfl hk640) (fun W hO => (hb504 _ _ hO).selT (Ls := [Blk b3 [.int .i64 0, .slice (some ⟨b2, 0, none⟩) 1 1] 27]) [1] 2 rfl rfl rfl) ?_
     refine TA.not 26 rfl (by kernel_rfl) rfl (PQ.then_ PQ.body) (Wt.no rfl rfl rfl hk640) (fun W hO => (hb504 _ _ hO).selT (Ls := [Blk b3 [.int .i64 0, .slice (some ⟨b2, 0, none⟩) 1 1] 27]) [1] 2 rfl rfl rfl) ?_
     refine TA.not 27 rfl (by kernel_rfl) rfl (PQ.then_ PQ.body) (Wt.no rfl rfl rfl hk640) (fun W hO => (hb504 _ _ hO).selT (Ls := [Blk b3 [.int .i64 0, .slice (some ⟨b2, 0, none⟩) 1 1] 27]) [1] 2 rfl rfl rfl) ?_
     refine TA.take 28 rfl (by kernel_rfl) rfl (PQ.then_ PQ.body) rfl (Val.pickN rfl hk640 rfl) (fun W hO => (hb504 _ _ hO).selT (Ls := [Blk b3 [.int .i64 0, .slice (some ⟨b2, 0, none⟩) 1 1] 27]) [1] 2 rfl rfl rfl) ?_
     refine TA.take 29 rfl (by kernel_rfl) rfl (PQ.then_ PQ.body) rfl (Val.move rfl) (fun W hO => (hb504 _ _ hO).selT (Ls := [Blk b3 [.int .i64 0, .slice (some ⟨b2, 0, none⟩) 1 1] 27]) [1] 2 rfl rfl rfl) ?_
     refine TA.not 30 rfl (by kernel_rfl) rfl (PQ.then_ PQ.body) (Wt.no rfl rfl rfl rfl) (fun W hO => (hb504 _ _ hO).selT (Ls := [Blk b3 [.int .i64 0, .slice (some ⟨b2, 0, none⟩) 1 1] 27]) [1] 2 rfl rfl rfl) ?_
     refine TA.not 31 rfl (by kernel_rfl) rfl (PQ.then_ PQ.body) (Wt.no rfl rfl rfl rfl) (fun W hO => (hb504 _ _ hO).selT (Ls := [Blk b3 [.int .i64 0, .slice (some ⟨b2, 0, none⟩) 1 1] 27]) [1] 2 rfl rfl rfl) ?_
     refine TA.not 32 rfl (by kernel_rfl) rfl (PQ.then_ PQ.body) (Wt.no rfl rfl rfl rfl) (fun W hO => (hb504 _ _ hO).selT (Ls := [Blk b3 [.int .i64 0, .slice (some ⟨b2, 0, none⟩) 1 1] 27]) [1] 2 rfl rfl rfl) ?_
     refine TA.not 33 rfl (by kernel_rfl) rfl (PQ.then_ PQ.body) (Wt.no rfl rfl rfl rfl) (fun W hO => (hb504 _ _ hO).selT (Ls := [Blk b3 [.int .i64 0, .slice (some ⟨b2, 0, none⟩) 1 1] 27]) [1] 2 rfl rfl rfl) ?_
     refine TA.not 34 rfl (by kernel_rfl) rfl (PQ.then_ PQ.body) (Wt.no rfl rfl rfl rfl) (fun W hO => (hb504 _ _ hO).selT (Ls := [Blk b3 [.int .i64 0, .slice (some ⟨b2, 0, none⟩) 1 1] 27]) [1] 2 rfl rfl rfl) ?_
     refine TA.not 35 rfl (by kernel_rfl) rfl (PQ.then_ PQ.body) (Wt.no rfl rfl rfl rfl) (fun W hO => (hb504 _ _ hO).selT (Ls := [Blk b3 [.int .i64 0, .slice (some ⟨b2, 0, none⟩) 1 1] 27]) [1] 2 rfl rfl rfl) ?_
     refine TA.not 36 rfl (by kernel_rfl) rfl (PQ.then_ PQ.body) (Wt.no rfl rfl rfl rfl) (fun W hO => (hb504 _ _ hO).selT (Ls := [Blk b3 [.int .i64 0, .slice (some ⟨b2, 0, none⟩) 1 1] 27]) [1] 2 rfl rfl rfl) ?_
     refine TA.not 37 rfl (by kernel_rfl) rfl (PQ.then_ PQ.body) (Wt.no rfl rfl rfl rfl) (fun W hO => (hb504 _ _ hO).selT (Ls := [Blk b3 [.int .i64 0, .slice (some ⟨b2, 0, none⟩) 1 1] 27]) [1] 2 rfl rfl rfl) ?_
     refine TA.not 38 rfl (by kernel_rfl) rfl (PQ.then_ PQ.body) (Wt.no rfl rfl rfl rfl) (fun W hO => (hb504 _ _ hO).selT (Ls := [Blk b3 [.int .i64 0, .slice (some ⟨b2, 0, none⟩) 1 1] 27]) [1] 2 rfl rfl rfl) ?_
     refine TA.take 39 rfl (by kernel_rfl) rfl (PQ.then_ PQ.body) rfl (Val.pickN rfl rfl rfl) (fun W hO => (hb504 _ _ hO).selT (Ls := [Blk b3 [.int .i64 0, .slice (some ⟨b2, 0, none⟩) 1 1] 27]) [1] 2 rfl rfl rfl) ?_
     refine TA.take 40 rfl (by kernel_rfl) rfl (PQ.then_ PQ.body) rfl (Val.move rfl) (fun W hO => (hb504 _ _ hO).selT (Ls := [Blk b3 [.int .i64 0, .slice (some ⟨b2, 0, none⟩) 1 1] 27]) [1] 2 rfl rfl rfl) ?_
     refine TA.not 41 rfl (by kernel_rfl) rfl (PQ.then_ PQ.body) (Wt.no rfl rfl rfl rfl) (fun W hO => (hb504 _ _ hO).selT (Ls := [Blk b3 [.int .i64 0, .slice (some ⟨b2, 0, none⟩) 1 1] 27]) [1] 2 rfl rfl rfl) ?_
     refine TA.not 42 rfl (by kernel_rfl) rfl (PQ.then_ PQ.body) (Wt.no rfl rfl rfl rfl) (fun W hO => (hb504 _ _ hO).selT (Ls := [Blk b3 [.int .i64 0, .slice (some ⟨b2, 0, none⟩) 1 1] 27]) [1] 2 rfl rfl rfl) ?_
     refine TA.not 43 rfl (by kernel_rfl) rfl (PQ.then_ PQ.body) (Wt.no rfl rfl rfl rfl) (fun W hO => (hb504 _ _ hO).selT (Ls := [Blk b3 [.int .i64 0, .slice (some ⟨b2, 0, none⟩) 1 1] 27]) [1] 2 rfl rfl rfl) ?_
     refine TA.not 44 rfl (by kernel_rfl) rfl (PQ.then_ PQ.body) (Wt.no rfl rfl rfl rfl) (fun W hO => (hb504 _ _ hO).selT (Ls := [Blk b3 [.int .i64 0, .slice (some ⟨b2, 0, none⟩) 1 1] 27]) [1] 2 rfl rfl rfl) ?_
     refine TA.take 45 rfl (by kernel_rfl) rfl (PQ.then_ PQ.body) rfl (Val.pickN rfl rfl rfl) (fun W hO => (hb504 _ _ hO).selT (Ls := [Blk b3 [.int .i64 0, .slice (some ⟨b2, 0, none⟩) 1 1] 27]) [1] 2 rfl rfl rfl) ?_
     refine TA.take 46 rfl (by kernel_rfl) rfl (PQ.then_ PQ.body) rfl (Val.move rfl) (fun W hO => (hb504 _ _ hO).selT (Ls := [Blk b3 [.int .i64 0, .slice (some ⟨b2, 0, none⟩) 1 1] 27]) [1] 2 rfl rfl rfl) ?_
     refine TA.not 47 rfl (by kernel_rfl) rfl (PQ.then_ PQ.body) (Wt.no rfl rfl rfl rfl) (fun W hO => (hb504 _ _ hO).selT (Ls := [Blk b3 [.int .i64 0, .slice (some ⟨b2, 0, none⟩) 1 1] 27]) [1] 2 rfl rfl rfl) ?_
     refine TA.not 48 rfl (by kernel_rfl) rfl (PQ.then_ PQ.body) (Wt.no rfl rfl rfl rfl) (fun W hO => (hb504 _ _ hO).selT (Ls := [Blk b3 [.int .i64 0, .slice (some ⟨b2, 0, none⟩) 1 1] 27]) [1] 2 rfl rfl rfl) ?_
     refine TA.not 49 rfl (by kernel_rfl) rfl (PQ.then_ PQ.body) (Wt.no rfl rfl rfl rfl) (fun W hO => (hb504 _ _ hO).selT (Ls := [Blk b3 [.int .i64 0, .slice (some ⟨b2, 0, none⟩) 1 1] 27]) [1] 2 rfl rfl rfl) ?_
     refine TA.not 50 rfl (by kernel_rfl) rfl (PQ.then_ PQ.body) (Wt.no rfl rfl rfl rfl) (fun W hO => (hb504 _ _ hO).selT (Ls := [Blk b3 [.int .i64 0, .slice (some ⟨b2, 0, none⟩) 1 1] 27]) [1] 2 rfl rfl rfl) ?_
     refine TA.not 51 rfl (by kernel_rfl) rfl (PQ.then_ PQ.body) (Wt.no rfl rfl rfl rfl) (fun W hO => (hb504 _ _ hO).selT (Ls := [Blk b3 [.int .i64 0, .slice (some ⟨b2, 0, none⟩) 1 1] 27]) [1] 2 rfl rfl rfl) ?_
     refine TA.not 52 rfl (by kernel_rfl) rfl (PQ.then_ PQ.body) (Wt.no rfl rfl rfl rfl) (fun W hO => (hb504 _ _ hO).selT (Ls := [Blk b3 [.int .i64 0, .slice (some ⟨b2, 0, none⟩) 1 1] 27]) [1] 2 rfl rfl rfl) ?_
     refine TA.not 53 rfl (by kernel_rfl) rfl (PQ.then_ PQ.body) (Wt.no rfl rfl rfl rfl) (fun W hO => (hb504 _ _ hO).selT (Ls := [Blk b3 [.int .i64 0, .slice (some ⟨b2, 0, none⟩) 1 1] 27]) [1] 2 rfl rfl rfl) ?_
     refine TA.not 54 rfl (by kernel_rfl) rfl (PQ.then_ PQ.body) (Wt.no rfl rfl rfl rfl) (fun W hO => (hb504 _ _ hO).selT (Ls := [Blk b3 [.int .i64 0, .slice (some ⟨b2, 0, none⟩) 1 1] 27]) [1] 2 rfl rfl rfl) ?_
     refine TA.take 55 rfl (by kernel_rfl) rfl (PQ.then_ PQ.body) rfl (Val.pickN rfl rfl rfl) (fun W hO => (hb504 _ _ hO).selT (Ls := [Blk b3 [.int .i64 0, .slice (some ⟨b2, 0, none⟩) 1 1] 27]) [1] 2 rfl rfl rfl) ?_
     refine TA.take 56 rfl (by kernel_rfl) rfl (PQ.then_ PQ.body) rfl (Val.assign rfl) (fun W hO => (hb504 _ _ hO).selT (Ls := [Blk b3 [.int .i64 0, .slice (some ⟨b2, 0, none⟩) 1 1] 27]) [1] 2 rfl rfl rfl) ?_
     refine TA.done (by kernel_rfl) ?_
     refine TQ.then_ ?_
     refine TC.ret ?_
     refine TQ.back hb504 ?_
     refine TQ.back hb492 ?_
     obtain rfl := Option.some.inj h
     exact TQ.fin (.inl rfl) rfl Tryd.results7 (.tmp rfl .nil) rfl (FRel.mk (Ls := []) [] 3 (Gd.le.refl _) rfl rfl rfl ⟨rfl, rfl, rfl⟩)
   ·
    have hk641 : (y512.data.toList == (⟨#[112, 97, 114, 97, 109, 115, 32, 48, 10, 98, 48, 58, 10, 32, 32, 99, 111, 110, 115, 116, 32, 118, 49, 32, 52, 10, 32, 32, 98, 105, 110, 46, 49, 32, 118, 51, 32, 118, 49, 32, 118, 49, 10, 32, 32, 112, 114, 105, 110, 116, 32, 118, 51, 10, 32, 32, 114, 101, 116, 117, 114, 110, 32, 118, 49, 10]⟩ : ByteArray).data.toList) = false := (by simpa using hg514)
    refine TA.not 13 rfl (by kernel_rfl) rfl (PQ.then_ PQ.body) (Wt.no rfl rfl rfl hk641) (fun W hO => (hb504 _ _ hO).selT (Ls := [Blk b3 [.int .i64 0, .slice (some ⟨b2, 0, none⟩) 1 1] 27]) [1] 2 rfl rfl rfl) ?_
    refine TA.not 14 rfl (by kernel_rfl) rfl (PQ.then_ PQ.body) (Wt.no rfl rfl rfl hk641) (fun W hO => (hb504 _ _ hO).selT (Ls := [Blk b3 [.int .i64 0, .slice (some ⟨b2, 0, none⟩) 1 1] 27]) [1] 2 rfl rfl rfl) ?_
    refine TA.not 15 rfl (by kernel_rfl) rfl (PQ.then_ PQ.body) (Wt.no rfl rfl rfl hk641) (fun W hO => (hb504 _ _ hO).selT (Ls := [Blk b3 [.int .i64 0, .slice (some ⟨b2, 0, none⟩) 1 1] 27]) [1] 2 rfl rfl rfl) ?_
    refine TA.take 16 rfl (by kernel_rfl) rfl (PQ.then_ PQ.body) rfl (Val.pickN rfl hk641 rfl) (fun W hO => (hb504 _ _ hO).selT (Ls := [Blk b3 [.int .i64 0, .slice (some ⟨b2, 0, none⟩) 1 1] 27]) [1] 2 rfl rfl rfl) ?_
    refine TA.take 17 rfl (by kernel_rfl) rfl (PQ.then_ PQ.body) rfl (Val.move rfl) (fun W hO => (hb504 _ _ hO).selT (Ls := [Blk b3 [.int .i64 0, .slice (some ⟨b2, 0, none⟩) 1 1] 27]) [1] 2 rfl rfl rfl) ?_
    refine TA.not 18 rfl (by kernel_rfl) rfl (PQ.then_ PQ.body) (Wt.no rfl rfl rfl rfl) (fun W hO => (hb504 _ _ hO).selT (Ls := [Blk b3 [.int .i64 0, .slice (some ⟨b2, 0, none⟩) 1 1] 27]) [1] 2 rfl rfl rfl) ?_
    refine TA.not 19 rfl (by kernel_rfl) rfl (PQ.then_ PQ.body) (Wt.no rfl rfl rfl rfl) (fun W hO => (hb504 _ _ hO).selT (Ls := [Blk b3 [.int .i64 0, .slice (some ⟨b2, 0, none⟩) 1 1] 27]) [1] 2 rfl rfl rfl) ?_
    refine TA.not 20 rfl (by kernel_rfl) rfl (PQ.then_ PQ.body) (Wt.no rfl rfl rfl rfl) (fun W hO => (hb504 _ _ hO).selT (Ls := [Blk b3 [.int .i64 0, .slice (some ⟨b2, 0, none⟩) 1 1] 27]) [1] 2 rfl rfl rfl) ?_
    refine TA.not 21 rfl (by kernel_rfl) rfl (PQ.then_ PQ.body) (Wt.no rfl rfl rfl rfl) (fun W hO => (hb504 _ _ hO).selT (Ls := [Blk b3 [.int .i64 0, .slice (some ⟨b2, 0, none⟩) 1 1] 27]) [1] 2 rfl rfl rfl) ?_
    refine TA.not 22 rfl (by kernel_rfl) rfl (PQ.then_ PQ.body) (Wt.no rfl rfl rfl rfl) (fun W hO => (hb504 _ _ hO).selT (Ls := [Blk b3 [.int .i64 0, .slice (some ⟨b2, 0, none⟩) 1 1] 27]) [1] 2 rfl rfl rfl) ?_
    refine TA.not 23 rfl (by kernel_rfl) rfl (PQ.then_ PQ.body) (Wt.no rfl rfl rfl rfl) (fun W hO => (hb504 _ _ hO).selT (Ls := [Blk b3 [.int .i64 0, .slice (some ⟨b2, 0, none⟩) 1 1] 27]) [1] 2 rfl rfl rfl) ?_
    refine TA.not 24 rfl (by kernel_rfl) rfl (PQ.then_ PQ.body) (Wt.no rfl rfl rfl rfl) (fun W hO => (hb504 _ _ hO).selT (Ls := [Blk b3 [.int .i64 0, .slice (some ⟨b2, 0, none⟩) 1 1] 27]) [1] 2 rfl rfl rfl) ?_
    refine TA.not 25 rfl (by kernel_rfl) rfl (PQ.then_ PQ.body) (Wt.no rfl rfl rfl rfl) (fun W hO => (hb504 _ _ hO).selT (Ls := [Blk b3 [.int .i64 0, .slice (some ⟨b2, 0, none⟩) 1 1] 27]) [1] 2 rfl rfl rfl) ?_
    refine TA.not 26 rfl (by kernel_rfl) rfl (PQ.then_ PQ.body) (Wt.no rfl rfl rfl rfl) (fun W hO => (hb504 _ _ hO).selT (Ls := [Blk b3 [.int .i64 0, .slice (some ⟨b2, 0, none⟩) 1 1] 27]) [1] 2 rfl rfl rfl) ?_
    refine TA.not 27 rfl (by kernel_rfl) rfl (PQ.then_ PQ.body) (Wt.no rfl rfl rfl rfl) (fun W hO => (hb504 _ _ hO).selT (Ls := [Blk b3 [.int .i64 0, .slice (some ⟨b2, 0, none⟩) 1 1] 27]) [1] 2 rfl rfl rfl) ?_
    refine TA.take 28 rfl (by kernel_rfl) rfl (PQ.then_ PQ.body) rfl (Val.pickN rfl rfl rfl) (fun W hO => (hb504 _ _ hO).selT (Ls := [Blk b3 [.int .i64 0, .slice (some ⟨b2, 0, none⟩) 1 1] 27]) [1] 2 rfl rfl rfl) ?_
    refine TA.take 29 rfl (by kernel_rfl) rfl (PQ.then_ PQ.body) rfl (Val.move rfl) (fun W hO => (hb504 _ _ hO).selT (Ls := [Blk b3 [.int .i64 0, .slice (some ⟨b2, 0, none⟩) 1 1] 27]) [1] 2 rfl rfl rfl) ?_
    refine TA.not 30 rfl (by kernel_rfl) rfl (PQ.then_ PQ.body) (Wt.no rfl rfl rfl rfl) (fun W hO => (hb504 _ _ hO).selT (Ls := [Blk b3 [.int .i64 0, .slice (some ⟨b2, 0, none⟩) 1 1] 27]) [1] 2 rfl rfl rfl) ?_
    refine TA.not 31 rfl (by kernel_rfl) rfl (PQ.then_ PQ.body) (Wt.no rfl rfl rfl rfl) (fun W hO => (hb504 _ _ hO).selT (Ls := [Blk b3 [.int .i64 0, .slice (some ⟨b2, 0, none⟩) 1 1] 27]) [1] 2 rfl rfl rfl) ?_
    refine TA.not 32 rfl (by kernel_rfl) rfl (PQ.then_ PQ.body) (Wt.no rfl rfl rfl rfl) (fun W hO => (hb504 _ _ hO).selT (Ls := [Blk b3 [.int .i64 0, .slice (some ⟨b2, 0, none⟩) 1 1] 27]) [1] 2 rfl rfl rfl) ?_
    refine TA.not 33 rfl (by kernel_rfl) rfl (PQ.then_ PQ.body) (Wt.no rfl rfl rfl rfl) (fun W hO => (hb504 _ _ hO).selT (Ls := [Blk b3 [.int .i64 0, .slice (some ⟨b2, 0, none⟩) 1 1] 27]) [1] 2 rfl rfl rfl) ?_
    refine TA.not 34 rfl (by kernel_rfl) rfl (PQ.then_ PQ.body) (Wt.no rfl rfl rfl rfl) (fun W hO => (hb504 _ _ hO).selT (Ls := [Blk b3 [.int .i64 0, .slice (some ⟨b2, 0, none⟩) 1 1] 27]) [1] 2 rfl rfl rfl) ?_
    refine TA.not 35 rfl (by kernel_rfl) rfl (PQ.then_ PQ.body) (Wt.no rfl rfl rfl rfl) (fun W hO => (hb504 _ _ hO).selT (Ls := [Blk b3 [.int .i64 0, .slice (some ⟨b2, 0, none⟩) 1 1] 27]) [1] 2 rfl rfl rfl) ?_
    refine TA.not 36 rfl (by kernel_rfl) rfl (PQ.then_ PQ.body) (Wt.no rfl rfl rfl rfl) (fun W hO => (hb504 _ _ hO).selT (Ls := [Blk b3 [.int .i64 0, .slice (some ⟨b2, 0, none⟩) 1 1] 27]) [1] 2 rfl rfl rfl) ?_
    refine TA.not 37 rfl (by kernel_rfl) rfl (PQ.then_ PQ.body) (Wt.no rfl rfl rfl rfl) (fun W hO => (hb504 _ _ hO).selT (Ls := [Blk b3 [.int .i64 0, .slice (some ⟨b2, 0, none⟩) 1 1] 27]) [1] 2 rfl rfl rfl) ?_
    refine TA.not 38 rfl (by kernel_rfl) rfl (PQ.then_ PQ.body) (Wt.no rfl rfl rfl rfl) (fun W hO => (hb504 _ _ hO).selT (Ls := [Blk b3 [.int .i64 0, .slice (some ⟨b2, 0, none⟩) 1 1] 27]) [1] 2 rfl rfl rfl) ?_
    refine TA.take 39 rfl (by kernel_rfl) rfl (PQ.then_ PQ.body) rfl (Val.pickN rfl rfl rfl) (fun W hO => (hb504 _ _ hO).selT (Ls := [Blk b3 [.int .i64 0, .slice (some ⟨b2, 0, none⟩) 1 1] 27]) [1] 2 rfl rfl rfl) ?_
    refine TA.take 40 rfl (by kernel_rfl) rfl (PQ.then_ PQ.body) rfl (Val.move rfl) (fun W hO => (hb504 _ _ hO).selT (Ls := [Blk b3 [.int .i64 0, .slice (some ⟨b2, 0, none⟩) 1 1] 27]) [1] 2 rfl rfl rfl) ?_
    refine TA.not 41 rfl (by kernel_rfl) rfl (PQ.then_ PQ.body) (Wt.no rfl rfl rfl rfl) (fun W hO => (hb504 _ _ hO).selT (Ls := [Blk b3 [.int .i64 0, .slice (some ⟨b2, 0, none⟩) 1 1] 27]) [1] 2 rfl rfl rfl) ?_
    refine TA.not 42 rfl (by kernel_rfl) rfl (PQ.then_ PQ.body) (Wt.no rfl rfl rfl rfl) (fun W hO => (hb504 _ _ hO).selT (Ls := [Blk b3 [.int .i64 0, .slice (some ⟨b2, 0, none⟩) 1 1] 27]) [1] 2 rfl rfl rfl) ?_
    refine TA.not 43 rfl (by kernel_rfl) rfl (PQ.then_ PQ.body) (Wt.no rfl rfl rfl rfl) (fun W hO => (hb504 _ _ hO).selT (Ls := [Blk b3 [.int .i64 0, .slice (some ⟨b2, 0, none⟩) 1 1] 27]) [1] 2 rfl rfl rfl) ?_
    refine TA.not 44 rfl (by kernel_rfl) rfl (PQ.then_ PQ.body) (Wt.no rfl rfl rfl rfl) (fun W hO => (hb504 _ _ hO).selT (Ls := [Blk b3 [.int .i64 0, .slice (some ⟨b2, 0, none⟩) 1 1] 27]) [1] 2 rfl rfl rfl) ?_
    refine TA.take 45 rfl (by kernel_rfl) rfl (PQ.then_ PQ.body) rfl (Val.pickN rfl rfl rfl) (fun W hO => (hb504 _ _ hO).selT (Ls := [Blk b3 [.int .i64 0, .slice (some ⟨b2, 0, none⟩) 1 1] 27]) [1] 2 rfl rfl rfl) ?_
    refine TA.take 46 rfl (by kernel_rfl) rfl (PQ.then_ PQ.body) rfl (Val.move rfl) (fun W hO => (hb504 _ _ hO).selT (Ls := [Blk b3 [.int .i64 0, .slice (some ⟨b2, 0, none⟩) 1 1] 27]) [1] 2 rfl rfl rfl) ?_
    refine TA.not 47 rfl (by kernel_rfl) rfl (PQ.then_ PQ.body) (Wt.no rfl rfl rfl rfl) (fun W hO => (hb504 _ _ hO).selT (Ls := [Blk b3 [.int .i64 0, .slice (some ⟨b2, 0, none⟩) 1 1] 27]) [1] 2 rfl rfl rfl) ?_
    refine TA.not 48 rfl (by kernel_rfl) rfl (PQ.then_ PQ.body) (Wt.no rfl rfl rfl rfl) (fun W hO => (hb504 _ _ hO).selT (Ls := [Blk b3 [.int .i64 0, .slice (some ⟨b2, 0, none⟩) 1 1] 27]) [1] 2 rfl rfl rfl) ?_
    refine TA.not 49 rfl (by kernel_rfl) rfl (PQ.then_ PQ.body) (Wt.no rfl rfl rfl rfl) (fun W hO => (hb504 _ _ hO).selT (Ls := [Blk b3 [.int .i64 0, .slice (some ⟨b2, 0, none⟩) 1 1] 27]) [1] 2 rfl rfl rfl) ?_
    refine TA.not 50 rfl (by kernel_rfl) rfl (PQ.then_ PQ.body) (Wt.no rfl rfl rfl rfl) (fun W hO => (hb504 _ _ hO).selT (Ls := [Blk b3 [.int .i64 0, .slice (some ⟨b2, 0, none⟩) 1 1] 27]) [1] 2 rfl rfl rfl) ?_
    refine TA.not 51 rfl (by kernel_rfl) rfl (PQ.then_ PQ.body) (Wt.no rfl rfl rfl rfl) (fun W hO => (hb504 _ _ hO).selT (Ls := [Blk b3 [.int .i64 0, .slice (some ⟨b2, 0, none⟩) 1 1] 27]) [1] 2 rfl rfl rfl) ?_
    refine TA.not 52 rfl (by kernel_rfl) rfl (PQ.then_ PQ.body) (Wt.no rfl rfl rfl rfl) (fun W hO => (hb504 _ _ hO).selT (Ls := [Blk b3 [.int .i64 0, .slice (some ⟨b2, 0, none⟩) 1 1] 27]) [1] 2 rfl rfl rfl) ?_
    refine TA.not 53 rfl (by kernel_rfl) rfl (PQ.then_ PQ.body) (Wt.no rfl rfl rfl rfl) (fun W hO => (hb504 _ _ hO).selT (Ls := [Blk b3 [.int .i64 0, .slice (some ⟨b2, 0, none⟩) 1 1] 27]) [1] 2 rfl rfl rfl) ?_
    refine TA.not 54 rfl (by kernel_rfl) rfl (PQ.then_ PQ.body) (Wt.no rfl rfl rfl rfl) (fun W hO => (hb504 _ _ hO).selT (Ls := [Blk b3 [.int .i64 0, .slice (some ⟨b2, 0, none⟩) 1 1] 27]) [1] 2 rfl rfl rfl) ?_
    refine TA.take 55 rfl (by kernel_rfl) rfl (PQ.then_ PQ.body) rfl (Val.pickN rfl rfl rfl) (fun W hO => (hb504 _ _ hO).selT (Ls := [Blk b3 [.int .i64 0, .slice (some ⟨b2, 0, none⟩) 1 1] 27]) [1] 2 rfl rfl rfl) ?_
    refine TA.take 56 rfl (by kernel_rfl) rfl (PQ.then_ PQ.body) rfl (Val.assign rfl) (fun W hO => (hb504 _ _ hO).selT (Ls := [Blk b3 [.int .i64 0, .slice (some ⟨b2, 0, none⟩) 1 1] 27]) [1] 2 rfl rfl rfl) ?_
    refine TA.done (by kernel_rfl) ?_
    refine TQ.then_ ?_
    refine TC.ret ?_
    refine TQ.back hb504 ?_
    refine TQ.back hb492 ?_
    obtain rfl := Option.some.inj h
    exact TQ.fin (.inl rfl) rfl Tryd.results7 (.tmp rfl .nil) rfl (FRel.mk (Ls := []) [] 3 (Gd.le.refl _) rfl rfl rfl ⟨rfl, rfl, rfl⟩)
  ·
   have hk642 : y508 = false := (by simpa using hg510)
   refine TA.not 8 rfl (by kernel_rfl) rfl (PQ.then_ PQ.body) (Wt.no rfl rfl rfl hk642) (fun W hO => (hb504 _ _ hO).selT (Ls := [Blk b3 [.int .i64 0, .slice (some ⟨b2, 0, none⟩) 1 1] 27]) [1] 2 rfl rfl rfl) ?_
   refine TA.not 9 rfl (by kernel_rfl) rfl (PQ.then_ PQ.body) (Wt.no rfl rfl rfl hk642) (fun W hO => (hb504 _ _ hO).selT (Ls := [Blk b3 [.int .i64 0, .slice (some ⟨b2, 0, none⟩) 1 1] 27]) [1] 2 rfl rfl rfl) ?_
   refine TA.not 10 rfl (by kernel_rfl) rfl (PQ.then_ PQ.body) (Wt.no rfl rfl rfl hk642) (fun W hO => (hb504 _ _ hO).selT (Ls := [Blk b3 [.int .i64 0, .slice (some ⟨b2, 0, none⟩) 1 1] 27]) [1] 2 rfl rfl rfl) ?_
   refine TA.take 11 rfl (by kernel_rfl) rfl (PQ.then_ PQ.body) rfl (Val.pickN rfl hk642 rfl) (fun W hO => (hb504 _ _ hO).selT (Ls := [Blk b3 [.int .i64 0, .slice (some ⟨b2, 0, none⟩) 1 1] 27]) [1] 2 rfl rfl rfl) ?_
   refine TA.take 12 rfl (by kernel_rfl) rfl (PQ.then_ PQ.body) rfl (Val.move rfl) (fun W hO => (hb504 _ _ hO).selT (Ls := [Blk b3 [.int .i64 0, .slice (some ⟨b2, 0, none⟩) 1 1] 27]) [1] 2 rfl rfl rfl) ?_
   refine TA.not 13 rfl (by kernel_rfl) rfl (PQ.then_ PQ.body) (Wt.no rfl rfl rfl rfl) (fun W hO => (hb504 _ _ hO).selT (Ls := [Blk b3 [.int .i64 0, .slice (some ⟨b2, 0, none⟩) 1 1] 27]) [1] 2 rfl rfl rfl) ?_
   refine TA.not 14 rfl (by kernel_rfl) rfl (PQ.then_ PQ.body) (Wt.no rfl rfl rfl rfl) (fun W hO => (hb504 _ _ hO).selT (Ls := [Blk b3 [.int .i64 0, .slice (some ⟨b2, 0, none⟩) 1 1] 27]) [1] 2 rfl rfl rfl) ?_
   refine TA.not 15 rfl (by kernel_rfl) rfl (PQ.then_ PQ.body) (Wt.no rfl rfl rfl rfl) (fun W hO => (hb504 _ _ hO).selT (Ls := [Blk b3 [.int .i64 0, .slice (some ⟨b2, 0, none⟩) 1 1] 27]) [1] 2 rfl rfl rfl) ?_
   refine TA.take 16 rfl (by kernel_rfl) rfl (PQ.then_ PQ.body) rfl (Val.pickN rfl rfl rfl) (fun W hO => (hb504 _ _ hO).selT (Ls := [Blk b3 [.int .i64 0, .slice (some ⟨b2, 0, none⟩) 1 1] 27]) [1] 2 rfl rfl rfl) ?_
   refine TA.take 17 rfl (by kernel_rfl) rfl (PQ.then_ PQ.body) rfl (Val.move rfl) (fun W hO => (hb504 _ _ hO).selT (Ls := [Blk b3 [.int .i64 0, .slice (some ⟨b2, 0, none⟩) 1 1] 27]) [1] 2 rfl rfl rfl) ?_
   refine TA.not 18 rfl (by kernel_rfl) rfl (PQ.then_ PQ.body) (Wt.no rfl rfl rfl rfl) (fun W hO => (hb504 _ _ hO).selT (Ls := [Blk b3 [.int .i64 0, .slice (some ⟨b2, 0, none⟩) 1 1] 27]) [1] 2 rfl rfl rfl) ?_
   refine TA.not 19 rfl (by kernel_rfl) rfl (PQ.then_ PQ.body) (Wt.no rfl rfl rfl rfl) (fun W hO => (hb504 _ _ hO).selT (Ls := [Blk b3 [.int .i64 0, .slice (some ⟨b2, 0, none⟩) 1 1] 27]) [1] 2 rfl rfl rfl) ?_
   refine TA.not 20 rfl (by kernel_rfl) rfl (PQ.then_ PQ.body) (Wt.no rfl rfl rfl rfl) (fun W hO => (hb504 _ _ hO).selT (Ls := [Blk b3 [.int .i64 0, .slice (some ⟨b2, 0, none⟩) 1 1] 27]) [1] 2 rfl rfl rfl) ?_
   refine TA.not 21 rfl (by kernel_rfl) rfl (PQ.then_ PQ.body) (Wt.no rfl rfl rfl rfl) (fun W hO => (hb504 _ _ hO).selT (Ls := [Blk b3 [.int .i64 0, .slice (some ⟨b2, 0, none⟩) 1 1] 27]) [1] 2 rfl rfl rfl) ?_
   refine TA.not 22 rfl (by kernel_rfl) rfl (PQ.then_ PQ.body) (Wt.no rfl rfl rfl rfl) (fun W hO => (hb504 _ _ hO).selT (Ls := [Blk b3 [.int .i64 0, .slice (some ⟨b2, 0, none⟩) 1 1] 27]) [1] 2 rfl rfl rfl) ?_
   refine TA.not 23 rfl (by kernel_rfl) rfl (PQ.then_ PQ.body) (Wt.no rfl rfl rfl rfl) (fun W hO => (hb504 _ _ hO).selT (Ls := [Blk b3 [.int .i64 0, .slice (some ⟨b2, 0, none⟩) 1 1] 27]) [1] 2 rfl rfl rfl) ?_
   refine TA.not 24 rfl (by kernel_rfl) rfl (PQ.then_ PQ.body) (Wt.no rfl rfl rfl rfl) (fun W hO => (hb504 _ _ hO).selT (Ls := [Blk b3 [.int .i64 0, .slice (some ⟨b2, 0, none⟩) 1 1] 27]) [1] 2 rfl rfl rfl) ?_
   refine TA.not 25 rfl (by kernel_rfl) rfl (PQ.then_ PQ.body) (Wt.no rfl rfl rfl rfl) (fun W hO => (hb504 _ _ hO).selT (Ls := [Blk b3 [.int .i64 0, .slice (some ⟨b2, 0, none⟩) 1 1] 27]) [1] 2 rfl rfl rfl) ?_
   refine TA.not 26 rfl (by kernel_rfl) rfl (PQ.then_ PQ.body) (Wt.no rfl rfl rfl rfl) (fun W hO => (hb504 _ _ hO).selT (Ls := [Blk b3 [.int .i64 0, .slice (some ⟨b2, 0, none⟩) 1 1] 27]) [1] 2 rfl rfl rfl) ?_
   refine TA.not 27 rfl (by kernel_rfl) rfl (PQ.then_ PQ.body) (Wt.no rfl rfl rfl rfl) (fun W hO => (hb504 _ _ hO).selT (Ls := [Blk b3 [.int .i64 0, .slice (some ⟨b2, 0, none⟩) 1 1] 27]) [1] 2 rfl rfl rfl) ?_
   refine TA.take 28 rfl (by kernel_rfl) rfl (PQ.then_ PQ.body) rfl (Val.pickN rfl rfl rfl) (fun W hO => (hb504 _ _ hO).selT (Ls := [Blk b3 [.int .i64 0, .slice (some ⟨b2, 0, none⟩) 1 1] 27]) [1] 2 rfl rfl rfl) ?_
   refine TA.take 29 rfl (by kernel_rfl) rfl (PQ.then_ PQ.body) rfl (Val.move rfl) (fun W hO => (hb504 _ _ hO).selT (Ls := [Blk b3 [.int .i64 0, .slice (some ⟨b2, 0, none⟩) 1 1] 27]) [1] 2 rfl rfl rfl) ?_
   refine TA.not 30 rfl (by kernel_rfl) rfl (PQ.then_ PQ.body) (Wt.no rfl rfl rfl rfl) (fun W hO => (hb504 _ _ hO).selT (Ls := [Blk b3 [.int .i64 0, .slice (some ⟨b2, 0, none⟩) 1 1] 27]) [1] 2 rfl rfl rfl) ?_
   refine TA.not 31 rfl (by kernel_rfl) rfl (PQ.then_ PQ.body) (Wt.no rfl rfl rfl rfl) (fun W hO => (hb504 _ _ hO).selT (Ls := [Blk b3 [.int .i64 0, .slice (some ⟨b2, 0, none⟩) 1 1] 27]) [1] 2 rfl rfl rfl) ?_
   refine TA.not 32 rfl (by kernel_rfl) rfl (PQ.then_ PQ.body) (Wt.no rfl rfl rfl rfl) (fun W hO => (hb504 _ _ hO).selT (Ls := [Blk b3 [.int .i64 0, .slice (some ⟨b2, 0, none⟩) 1 1] 27]) [1] 2 rfl rfl rfl) ?_
   refine TA.not 33 rfl (by kernel_rfl) rfl (PQ.then_ PQ.body) (Wt.no rfl rfl rfl rfl) (fun W hO => (hb504 _ _ hO).selT (Ls := [Blk b3 [.int .i64 0, .slice (some ⟨b2, 0, none⟩) 1 1] 27]) [1] 2 rfl rfl rfl) ?_
   refine TA.not 34 rfl (by kernel_rfl) rfl (PQ.then_ PQ.body) (Wt.no rfl rfl rfl rfl) (fun W hO => (hb504 _ _ hO).selT (Ls := [Blk b3 [.int .i64 0, .slice (some ⟨b2, 0, none⟩) 1 1] 27]) [1] 2 rfl rfl rfl) ?_
   refine TA.not 35 rfl (by kernel_rfl) rfl (PQ.then_ PQ.body) (Wt.no rfl rfl rfl rfl) (fun W hO => (hb504 _ _ hO).selT (Ls := [Blk b3 [.int .i64 0, .slice (some ⟨b2, 0, none⟩) 1 1] 27]) [1] 2 rfl rfl rfl) ?_
   refine TA.not 36 rfl (by kernel_rfl) rfl (PQ.then_ PQ.body) (Wt.no rfl rfl rfl rfl) (fun W hO => (hb504 _ _ hO).selT (Ls := [Blk b3 [.int .i64 0, .slice (some ⟨b2, 0, none⟩) 1 1] 27]) [1] 2 rfl rfl rfl) ?_
   refine TA.not 37 rfl (by kernel_rfl) rfl (PQ.then_ PQ.body) (Wt.no rfl rfl rfl rfl) (fun W hO => (hb504 _ _ hO).selT (Ls := [Blk b3 [.int .i64 0, .slice (some ⟨b2, 0, none⟩) 1 1] 27]) [1] 2 rfl rfl rfl) ?_
   refine TA.not 38 rfl (by kernel_rfl) rfl (PQ.then_ PQ.body) (Wt.no rfl rfl rfl rfl) (fun W hO => (hb504 _ _ hO).selT (Ls := [Blk b3 [.int .i64 0, .slice (some ⟨b2, 0, none⟩) 1 1] 27]) [1] 2 rfl rfl rfl) ?_
   refine TA.take 39 rfl (by kernel_rfl) rfl (PQ.then_ PQ.body) rfl (Val.pickN rfl rfl rfl) (fun W hO => (hb504 _ _ hO).selT (Ls := [Blk b3 [.int .i64 0, .slice (some ⟨b2, 0, none⟩) 1 1] 27]) [1] 2 rfl rfl rfl) ?_
   refine TA.take 40 rfl (by kernel_rfl) rfl (PQ.then_ PQ.body) rfl (Val.move rfl) (fun W hO => (hb504 _ _ hO).selT (Ls := [Blk b3 [.int .i64 0, .slice (some ⟨b2, 0, none⟩) 1 1] 27]) [1] 2 rfl rfl rfl) ?_
   refine TA.not 41 rfl (by kernel_rfl) rfl (PQ.then_ PQ.body) (Wt.no rfl rfl rfl rfl) (fun W hO => (hb504 _ _ hO).selT (Ls := [Blk b3 [.int .i64 0, .slice (some ⟨b2, 0, none⟩) 1 1] 27]) [1] 2 rfl rfl rfl) ?_
   refine TA.not 42 rfl (by kernel_rfl) rfl (PQ.then_ PQ.body) (Wt.no rfl rfl rfl rfl) (fun W hO => (hb504 _ _ hO).selT (Ls := [Blk b3 [.int .i64 0, .slice (some ⟨b2, 0, none⟩) 1 1] 27]) [1] 2 rfl rfl rfl) ?_
   refine TA.not 43 rfl (by kernel_rfl) rfl (PQ.then_ PQ.body) (Wt.no rfl rfl rfl rfl) (fun W hO => (hb504 _ _ hO).selT (Ls := [Blk b3 [.int .i64 0, .slice (some ⟨b2, 0, none⟩) 1 1] 27]) [1] 2 rfl rfl rfl) ?_
   refine TA.not 44 rfl (by kernel_rfl) rfl (PQ.then_ PQ.body) (Wt.no rfl rfl rfl rfl) (fun W hO => (hb504 _ _ hO).selT (Ls := [Blk b3 [.int .i64 0, .slice (some ⟨b2, 0, none⟩) 1 1] 27]) [1] 2 rfl rfl rfl) ?_
   refine TA.take 45 rfl (by kernel_rfl) rfl (PQ.then_ PQ.body) rfl (Val.pickN rfl rfl rfl) (fun W hO => (hb504 _ _ hO).selT (Ls := [Blk b3 [.int .i64 0, .slice (some ⟨b2, 0, none⟩) 1 1] 27]) [1] 2 rfl rfl rfl) ?_
   refine TA.take 46 rfl (by kernel_rfl) rfl (PQ.then_ PQ.body) rfl (Val.move rfl) (fun W hO => (hb504 _ _ hO).selT (Ls := [Blk b3 [.int .i64 0, .slice (some ⟨b2, 0, none⟩) 1 1] 27]) [1] 2 rfl rfl rfl) ?_
   refine TA.not 47 rfl (by kernel_rfl) rfl (PQ.then_ PQ.body) (Wt.no rfl rfl rfl rfl) (fun W hO => (hb504 _ _ hO).selT (Ls := [Blk b3 [.int .i64 0, .slice (some ⟨b2, 0, none⟩) 1 1] 27]) [1] 2 rfl rfl rfl) ?_
   refine TA.not 48 rfl (by kernel_rfl) rfl (PQ.then_ PQ.body) (Wt.no rfl rfl rfl rfl) (fun W hO => (hb504 _ _ hO).selT (Ls := [Blk b3 [.int .i64 0, .slice (some ⟨b2, 0, none⟩) 1 1] 27]) [1] 2 rfl rfl rfl) ?_
   refine TA.not 49 rfl (by kernel_rfl) rfl (PQ.then_ PQ.body) (Wt.no rfl rfl rfl rfl) (fun W hO => (hb504 _ _ hO).selT (Ls := [Blk b3 [.int .i64 0, .slice (some ⟨b2, 0, none⟩) 1 1] 27]) [1] 2 rfl rfl rfl) ?_
   refine TA.not 50 rfl (by kernel_rfl) rfl (PQ.then_ PQ.body) (Wt.no rfl rfl rfl rfl) (fun W hO => (hb504 _ _ hO).selT (Ls := [Blk b3 [.int .i64 0, .slice (some ⟨b2, 0, none⟩) 1 1] 27]) [1] 2 rfl rfl rfl) ?_
   refine TA.not 51 rfl (by kernel_rfl) rfl (PQ.then_ PQ.body) (Wt.no rfl rfl rfl rfl) (fun W hO => (hb504 _ _ hO).selT (Ls := [Blk b3 [.int .i64 0, .slice (some ⟨b2, 0, none⟩) 1 1] 27]) [1] 2 rfl rfl rfl) ?_
   refine TA.not 52 rfl (by kernel_rfl) rfl (PQ.then_ PQ.body) (Wt.no rfl rfl rfl rfl) (fun W hO => (hb504 _ _ hO).selT (Ls := [Blk b3 [.int .i64 0, .slice (some ⟨b2, 0, none⟩) 1 1] 27]) [1] 2 rfl rfl rfl) ?_
   refine TA.not 53 rfl (by kernel_rfl) rfl (PQ.then_ PQ.body) (Wt.no rfl rfl rfl rfl) (fun W hO => (hb504 _ _ hO).selT (Ls := [Blk b3 [.int .i64 0, .slice (some ⟨b2, 0, none⟩) 1 1] 27]) [1] 2 rfl rfl rfl) ?_
   refine TA.not 54 rfl (by kernel_rfl) rfl (PQ.then_ PQ.body) (Wt.no rfl rfl rfl rfl) (fun W hO => (hb504 _ _ hO).selT (Ls := [Blk b3 [.int .i64 0, .slice (some ⟨b2, 0, none⟩) 1 1] 27]) [1] 2 rfl rfl rfl) ?_
   refine TA.take 55 rfl (by kernel_rfl) rfl (PQ.then_ PQ.body) rfl (Val.pickN rfl rfl rfl) (fun W hO => (hb504 _ _ hO).selT (Ls := [Blk b3 [.int .i64 0, .slice (some ⟨b2, 0, none⟩) 1 1] 27]) [1] 2 rfl rfl rfl) ?_
   refine TA.take 56 rfl (by kernel_rfl) rfl (PQ.then_ PQ.body) rfl (Val.assign rfl) (fun W hO => (hb504 _ _ hO).selT (Ls := [Blk b3 [.int .i64 0, .slice (some ⟨b2, 0, none⟩) 1 1] 27]) [1] 2 rfl rfl rfl) ?_
   refine TA.done (by kernel_rfl) ?_
   refine TQ.then_ ?_
   refine TC.ret ?_
   refine TQ.back hb504 ?_
   refine TQ.back hb492 ?_
   obtain rfl := Option.some.inj h
   exact TQ.fin (.inl rfl) rfl Tryd.results7 (.tmp rfl .nil) rfl (FRel.mk (Ls := []) [] 3 (Gd.le.refl _) rfl rfl rfl ⟨rfl, rfl, rfl⟩)
 ·
  have hk643 : y495 = false := (by simpa using hg497)
  refine TA.not 3 rfl (by kernel_rfl) rfl (PQ.then_ PQ.body) (Wt.no rfl rfl rfl hk643) (fun W hO => hO) ?_
  refine TA.not 4 rfl (by kernel_rfl) rfl (PQ.then_ PQ.body) (Wt.no rfl rfl rfl hk643) (fun W hO => hO) ?_
  refine TA.not 5 rfl (by kernel_rfl) rfl (PQ.then_ PQ.body) (Wt.no rfl rfl rfl hk643) (fun W hO => hO) ?_
  refine TA.take 6 rfl (by kernel_rfl) rfl (PQ.then_ PQ.body) rfl (Val.pickN rfl hk643 rfl) (fun W hO => hO) ?_
  refine TA.take 7 rfl (by kernel_rfl) rfl (PQ.then_ PQ.body) rfl (Val.move rfl) (fun W hO => hO) ?_
  refine TA.not 8 rfl (by kernel_rfl) rfl (PQ.then_ PQ.body) (Wt.no rfl rfl rfl rfl) (fun W hO => hO) ?_
  refine TA.not 9 rfl (by kernel_rfl) rfl (PQ.then_ PQ.body) (Wt.no rfl rfl rfl rfl) (fun W hO => hO) ?_
  refine TA.not 10 rfl (by kernel_rfl) rfl (PQ.then_ PQ.body) (Wt.no rfl rfl rfl rfl) (fun W hO => hO) ?_
  refine TA.take 11 rfl (by kernel_rfl) rfl (PQ.then_ PQ.body) rfl (Val.pickN rfl rfl rfl) (fun W hO => hO) ?_
  refine TA.take 12 rfl (by kernel_rfl) rfl (PQ.then_ PQ.body) rfl (Val.move rfl) (fun W hO => hO) ?_
  refine TA.not 13 rfl (by kernel_rfl) rfl (PQ.then_ PQ.body) (Wt.no rfl rfl rfl rfl) (fun W hO => hO) ?_
  refine TA.not 14 rfl (by kernel_rfl) rfl (PQ.then_ PQ.body) (Wt.no rfl rfl rfl rfl) (fun W hO => hO) ?_
  refine TA.not 15 rfl (by kernel_rfl) rfl (PQ.then_ PQ.body) (Wt.no rfl rfl rfl rfl) (fun W hO => hO) ?_
  refine TA.take 16 rfl (by kernel_rfl) rfl (PQ.then_ PQ.body) rfl (Val.pickN rfl rfl rfl) (fun W hO => hO) ?_
  refine TA.take 17 rfl (by kernel_rfl) rfl (PQ.then_ PQ.body) rfl (Val.move rfl) (fun W hO => hO) ?_
  refine TA.not 18 rfl (by kernel_rfl) rfl (PQ.then_ PQ.body) (Wt.no rfl rfl rfl rfl) (fun W hO => hO) ?_
  refine TA.not 19 rfl (by kernel_rfl) rfl (PQ.then_ PQ.body) (Wt.no rfl rfl rfl rfl) (fun W hO => hO) ?_
  refine TA.not 20 rfl (by kernel_rfl) rfl (PQ.then_ PQ.body) (Wt.no rfl rfl rfl rfl) (fun W hO => hO) ?_
  refine TA.not 21 rfl (by kernel_rfl) rfl (PQ.then_ PQ.body) (Wt.no rfl rfl rfl rfl) (fun W hO => hO) ?_
  refine TA.not 22 rfl (by kernel_rfl) rfl (PQ.then_ PQ.body) (Wt.no rfl rfl rfl rfl) (fun W hO => hO) ?_
  refine TA.not 23 rfl (by kernel_rfl) rfl (PQ.then_ PQ.body) (Wt.no rfl rfl rfl rfl) (fun W hO => hO) ?_
  refine TA.not 24 rfl (by kernel_rfl) rfl (PQ.then_ PQ.body) (Wt.no rfl rfl rfl rfl) (fun W hO => hO) ?_
  refine TA.not 25 rfl (by kernel_rfl) rfl (PQ.then_ PQ.body) (Wt.no rfl rfl rfl rfl) (fun W hO => hO) ?_
  refine TA.not 26 rfl (by kernel_rfl) rfl (PQ.then_ PQ.body) (Wt.no rfl rfl rfl rfl) (fun W hO => hO) ?_
  refine TA.not 27 rfl (by kernel_rfl) rfl (PQ.then_ PQ.body) (Wt.no rfl rfl rfl rfl) (fun W hO => hO) ?_
  refine TA.take 28 rfl (by kernel_rfl) rfl (PQ.then_ PQ.body) rfl (Val.pickN rfl rfl rfl) (fun W hO => hO) ?_
  refine TA.take 29 rfl (by kernel_rfl) rfl (PQ.then_ PQ.body) rfl (Val.move rfl) (fun W hO => hO) ?_
  refine TA.not 30 rfl (by kernel_rfl) rfl (PQ.then_ PQ.body) (Wt.no rfl rfl rfl rfl) (fun W hO => hO) ?_
  refine TA.not 31 rfl (by kernel_rfl) rfl (PQ.then_ PQ.body) (Wt.no rfl rfl rfl rfl) (fun W hO => hO) ?_
  refine TA.not 32 rfl (by kernel_rfl) rfl (PQ.then_ PQ.body) (Wt.no rfl rfl rfl rfl) (fun W hO => hO) ?_
  refine TA.not 33 rfl (by kernel_rfl) rfl (PQ.then_ PQ.body) (Wt.no rfl rfl rfl rfl) (fun W hO => hO) ?_
  refine TA.not 34 rfl (by kernel_rfl) rfl (PQ.then_ PQ.body) (Wt.no rfl rfl rfl rfl) (fun W hO => hO) ?_
  refine TA.not 35 rfl (by kernel_rfl) rfl (PQ.then_ PQ.body) (Wt.no rfl rfl rfl rfl) (fun W hO => hO) ?_
  refine TA.not 36 rfl (by kernel_rfl) rfl (PQ.then_ PQ.body) (Wt.no rfl rfl rfl rfl) (fun W hO => hO) ?_
  refine TA.not 37 rfl (by kernel_rfl) rfl (PQ.then_ PQ.body) (Wt.no rfl rfl rfl rfl) (fun W hO => hO) ?_
  refine TA.not 38 rfl (by kernel_rfl) rfl (PQ.then_ PQ.body) (Wt.no rfl rfl rfl rfl) (fun W hO => hO) ?_
  refine TA.take 39 rfl (by kernel_rfl) rfl (PQ.then_ PQ.body) rfl (Val.pickN rfl rfl rfl) (fun W hO => hO) ?_
  refine TA.take 40 rfl (by kernel_rfl) rfl (PQ.then_ PQ.body) rfl (Val.move rfl) (fun W hO => hO) ?_
  refine TA.not 41 rfl (by kernel_rfl) rfl (PQ.then_ PQ.body) (Wt.no rfl rfl rfl rfl) (fun W hO => hO) ?_
  refine TA.not 42 rfl (by kernel_rfl) rfl (PQ.then_ PQ.body) (Wt.no rfl rfl rfl rfl) (fun W hO => hO) ?_
  refine TA.not 43 rfl (by kernel_rfl) rfl (PQ.then_ PQ.body) (Wt.no rfl rfl rfl rfl) (fun W hO => hO) ?_
  refine TA.not 44 rfl (by kernel_rfl) rfl (PQ.then_ PQ.body) (Wt.no rfl rfl rfl rfl) (fun W hO => hO) ?_
  refine TA.take 45 rfl (by kernel_rfl) rfl (PQ.then_ PQ.body) rfl (Val.pickN rfl rfl rfl) (fun W hO => hO) ?_
  refine TA.take 46 rfl (by kernel_rfl) rfl (PQ.then_ PQ.body) rfl (Val.move rfl) (fun W hO => hO) ?_
  refine TA.not 47 rfl (by kernel_rfl) rfl (PQ.then_ PQ.body) (Wt.no rfl rfl rfl rfl) (fun W hO => hO) ?_
  refine TA.not 48 rfl (by kernel_rfl) rfl (PQ.then_ PQ.body) (Wt.no rfl rfl rfl rfl) (fun W hO => hO) ?_
  refine TA.not 49 rfl (by kernel_rfl) rfl (PQ.then_ PQ.body) (Wt.no rfl rfl rfl rfl) (fun W hO => hO) ?_
  refine TA.not 50 rfl (by kernel_rfl) rfl (PQ.then_ PQ.body) (Wt.no rfl rfl rfl rfl) (fun W hO => hO) ?_
  refine TA.not 51 rfl (by kernel_rfl) rfl (PQ.then_ PQ.body) (Wt.no rfl rfl rfl rfl) (fun W hO => hO) ?_
  refine TA.not 52 rfl (by kernel_rfl) rfl (PQ.then_ PQ.body) (Wt.no rfl rfl rfl rfl) (fun W hO => hO) ?_
  refine TA.not 53 rfl (by kernel_rfl) rfl (PQ.then_ PQ.body) (Wt.no rfl rfl rfl rfl) (fun W hO => hO) ?_
  refine TA.not 54 rfl (by kernel_rfl) rfl (PQ.then_ PQ.body) (Wt.no rfl rfl rfl rfl) (fun W hO => hO) ?_
  refine TA.take 55 rfl (by kernel_rfl) rfl (PQ.then_ PQ.body) rfl (Val.pickN rfl rfl rfl) (fun W hO => hO) ?_
  refine TA.take 56 rfl (by kernel_rfl) rfl (PQ.then_ PQ.body) rfl (Val.assign rfl) (fun W hO => hO) ?_
  refine TA.done (by kernel_rfl) ?_
  refine TQ.then_ ?_
  refine TC.ret ?_
  refine TQ.back hb492 ?_
  obtain rfl := Option.some.inj h
  exact TQ.fin (.inl rfl) rfl Tryd.results7 (.tmp rfl .nil) rfl (FRel.mk (Ls := []) [] 2 (Gd.le.refl _) rfl rfl rfl ⟨rfl, rfl, rfl⟩)
end Go.Proofs.YtmacdhkfgoahcaaDoor.Sy
