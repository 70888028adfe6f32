/- Texts of this work, joined: SyF30, SyF36, SyF6, CtB, CtC, CtD, CtE, CtF, CtG. -/
import Derived.Test.YtmacdhkfgoahcaaDoorSyNCodeTextsc
set_option linter.unusedVariables false
set_option linter.unusedSimpArgs false
set_option maxRecDepth 100000
set_option maxHeartbeats 4000000
namespace Go.Proofs.YtmacdhkfgoahcaaDoor.Sy
open Go Go.RowKit Go.Proofs.YtmacdhkfgoahcaaDoorW.PrintWords 
def code_Succ.l0 (a0 : S27) : Nat → (List (List Int)) → Int → Option ((List (List Int)))
 | 0, _, _ => none
 | n833 + 1, l622, x626 => (if x626 < (a0.f1.length : Int) then (at? a0.f1 x626).bind fun y1138 => jn (γ := ((List (List Int)))) (fun (l1221 : (List (List Int))) => code_Succ.l0 a0 n833 l1221 (IntKind.i64.wrap (x626 + 1))) (fun (j1226 : ((List (List Int)) → Option ((List (List Int))))) => (if y1138.f1.f0 = 2 then (at? l622 x626).bind fun y1229 => j1226 (l622.set x626.toNat ([y1138.f1.f2, y1138.f1.f3] : List Int)) else (if y1138.f1.f0 = 1 then (at? l622 x626).bind fun y1247 => j1226 (l622.set x626.toNat ([y1138.f1.f2] : List Int)) else j1226 l622))) else some l622)
def code_Succ.f (a0 : S27) : Option (List (List Int)) := (if 0 ≤ (a0.f1.length : Int) ∧ (a0.f1.length : Int) ≤ 5864062014805 then (code_Succ.l0 a0 (a0.f1.length + 1) (List.replicate (a0.f1.length : Int).toNat ([] : List Int)) 0).bind fun (l828 : (List (List Int))) => some l828 else none)
def code_Succ.post (G : Gd) (r : (List (List Int))) (v : Value) (G' : Gd) (Lr : List Ch) : Prop := G = G' ∧ ∃ (A_1 : Option Addr) (c_1 : Nat), v = .slice A_1 r.length c_1 ∧ Lr = [Row (Kd.slice 3 (Kd.int .i64)) 38 (.slice A_1 r.length c_1) r]
theorem code_Succ.calls {G : Gd} {r : (List (List Int))} {a0 : S27} {A1 : Option Addr} {c2 : Nat} (hr3 : Rd G k37 A1 a0.f1) (hl4 : a0.f1.length ≤ c2) (h : code_Succ.f a0 = some r) : Fn Tryd.prog 30 G [] [.agg #[.int .i64 a0.f0, .slice A1 a0.f1.length c2]] (code_Succ.post G r) := by
 refine Fn.intro (e := [(0, .agg #[.int .i64 a0.f0, .slice A1 a0.f1.length c2])]) 44 Tryd.func30 rfl Tryd.ntmps30 rfl rfl (Nat.le_of_ble_eq_true rfl) (fun L => ?_)
 unfold code_Succ.f at h
 refine TC.seq ?_
 refine TC.region ?_
 refine TL.cons (TL.box (cs := [.int .i64 a0.f0, .slice A1 a0.f1.length c2]) rfl rfl rfl rfl (fun b5 => ?_))
 refine TL.cons (TO.val rfl rfl rfl (Val.assign rfl) ?_)
 refine TL.nil ?_
 refine TQ.then_ ?_
 refine TC.seq ?_
 refine TC.region ?_
 refine TL.cons (TO.val rfl rfl rfl (Val.fieldAddrB Tryd.underlying27 rfl fsz25 rfl rfl rfl) ?_)
 refine TL.cons (TO.val rfl rfl rfl (Val.loadB 0 agg25 rfl rfl rfl) ?_)
 refine TL.cons (TO.val rfl rfl rfl (Val.len Tryd.underlying25 rfl) ?_)
 obtain ⟨ha6, h⟩ := ite_no h
 refine TL.cons (TL.make (Kd.slice 3 (Kd.int .i64)) rfl rfl Tryd.underlying49 inf38 rfl (Nat.le_of_ble_eq_true rfl) (Nat.le_of_ble_eq_true rfl) rfl rfl (fun W B => ⟨_, rfl, Kd.R_nil _ _ _ _ _⟩) ha6.1 (by have h_ := ha6.2; omega) (fun A7 c8 => ?_))
 refine TL.cons (TO.val rfl rfl rfl (Val.assign rfl) ?_)
 refine TL.nil ?_
 refine TQ.then_ ?_
 refine TC.seq ?_
 refine TC.seq ?_
 refine TC.region ?_
 refine TL.cons (TO.val rfl rfl rfl (Val.fieldAddrB Tryd.underlying27 rfl fsz25 rfl rfl rfl) ?_)
 refine TL.cons (TO.val rfl rfl rfl (Val.loadB 1 agg25 rfl rfl rfl) ?_)
 refine TL.cons (TO.val rfl rfl rfl (Val.len Tryd.underlying25 rfl) ?_)
 refine TL.cons (TO.val rfl rfl rfl (Val.move rfl) ?_)
 refine TL.nil ?_
 refine TQ.then_ ?_
 obtain ⟨o832, ho832, ko832⟩ := bind_no h
 clear h
 refine TC.tail (fun a W => ∃ (l828 : (List (List Int))) (A829 : Option Addr) (c830 : Nat), l828 = o832 ∧ Fr 44 a [(3, .slice A829 l828.length c830)] ∧ Own G (Row (Kd.slice 3 (Kd.int .i64)) 38 (.slice A829 l828.length c830) l828 :: L) W) ?_ ?_
 ·
  rintro a W ⟨l828, A829, c830, rfl, hF, hO⟩
  have h := ko832
  clear ko832 ho832
  refine TQ.use ?_ hF hO
  clear hF hO
  refine TQ.then_ ?_
  refine TC.seq ?_
  refine TC.region ?_
  refine TL.cons (TO.val rfl rfl rfl (Val.move rfl) ?_)
  refine TL.cons (TO.val rfl rfl rfl (Val.assign rfl) ?_)
  refine TL.nil ?_
  refine TQ.then_ ?_
  refine TC.ret ?_
  obtain rfl := Option.some.inj h
  exact TQ.fin (.inl rfl) rfl Tryd.results30 (.tmp rfl .nil) rfl (FRel.mk (Ls := [Row (Kd.slice 3 (Kd.int .i64)) 38 (.slice A829 l828.length c830) l828]) [0] 1 (Gd.le.refl _) rfl rfl rfl ⟨rfl, A829, c830, rfl, rfl⟩)
 ·
  refine TC.block ?_
  intro a W hF hO
  have hS : ∃ (l622 : (List (List Int))) (x626 : Int) (A623 : Option Addr) (c624 : Nat), code_Succ.l0 a0 (a0.f1.length + 1) l622 x626 = some o832 ∧ Fr 44 a [(3, .slice A623 l622.length c624), (11, .slice A1 a0.f1.length c2), (12, .int .i64 (a0.f1.length : Int)), (13, .int .i64 x626)] ∧ Own G (Row (Kd.slice 3 (Kd.int .i64)) 38 (.slice A623 l622.length c624) l622 :: L) W := by
   exact ⟨(List.replicate (a0.f1.length : Int).toNat ([] : List Int)), 0, A7, c8, ho832, hF.sub ⟨rfl, rfl, rfl, rfl, trivial⟩, hO.selT (Ls := [Row (Kd.slice 3 (Kd.int .i64)) 38 (.slice A7 (List.replicate (a0.f1.length : Int).toNat ([] : List Int)).length c8) (List.replicate (a0.f1.length : Int).toNat ([] : List Int))]) [0] 2 rfl rfl rfl⟩
  clear hF hO ho832 ko832
  refine TC.loop (fun n833 a W => ∃ (l622 : (List (List Int))) (x626 : Int) (A623 : Option Addr) (c624 : Nat), code_Succ.l0 a0 n833 l622 x626 = some o832 ∧ Fr 44 a [(3, .slice A623 l622.length c624), (11, .slice A1 a0.f1.length c2), (12, .int .i64 (a0.f1.length : Int)), (13, .int .i64 x626)] ∧ Own G (Row (Kd.slice 3 (Kd.int .i64)) 38 (.slice A623 l622.length c624) l622 :: L) W) ?_ ?_ hS
  ·
   rintro a W ⟨l622, x626, A623, c624, h, hF, hO⟩
   exact none_no h
  ·
   clear hS
   rintro n833 a W ⟨l622, x626, A623, c624, h, hF, hO⟩
   rw [code_Succ.l0] at h
   refine TC.use ?_ hF hO
   clear hF hO
   refine TC.seq ?_
   refine TC.region ?_
   refine TL.cons (TO.val rfl rfl rfl (Val.cmp rfl rfl run_lss) ?_)
   refine TL.nil ?_
   refine TQ.then_ ?_
   refine TC.seq ?_
   refine TC.cond_p rfl h (fun hc1021 h => ?_) (fun hc1021 h => ?_)
   ·
    refine TC.skip ?_
    refine TQ.then_ ?_
    refine TC.seq ?_
    refine TC.block ?_
    refine TC.seq ?_
    refine TC.region ?_
    refine TL.cons (TO.val rfl rfl rfl (Val.move rfl) ?_)
    obtain ⟨y1138, hx1139, h⟩ := bind_no h
    obtain ⟨ad1140, cs1146, hA1141, hi1142, hj1143, hcl1144, hK1145⟩ := Rd.at hr3 hx1139
    obtain ⟨A1147, c1148, rfl, hr1149, hl1150⟩ := k37_openR hK1145
    refine TL.cons (TO.val rfl rfl rfl (Val.indexAddr Tryd.underlying25 fsz37 rfl hA1141 rfl hi1142 hj1143) ?_)
    refine TL.cons (TO.val rfl rfl rfl (Val.loadsS (cs := [.slice A1147 y1138.f0.length c1148, .int .i64 y1138.f1.f0, .int .i64 y1138.f1.f1, .int .i64 y1138.f1.f2, .int .i64 y1138.f1.f3]) agg37 fsz37 rfl rfl (Cl.sub (off := 0) (n := 5) hcl1144 rfl)) ?_)
    refine TL.cons (TL.alloc (cs := [.slice none 0 0, .int .i64 0, .int .i64 0, .int .i64 0, .int .i64 0]) rfl rfl zr37 rfl (fun b1151 => ?_))
    refine TL.cons (TO.val rfl rfl rfl (Val.assign rfl) ?_)
    refine TL.cons (TL.store 0 (ds := [.slice A1147 y1138.f0.length c1148, .int .i64 y1138.f1.f0, .int .i64 y1138.f1.f1, .int .i64 y1138.f1.f2, .int .i64 y1138.f1.f3]) (cs' := [.slice A1147 y1138.f0.length c1148, .int .i64 y1138.f1.f0, .int .i64 y1138.f1.f1, .int .i64 y1138.f1.f2, .int .i64 y1138.f1.f3]) (L' := (Blk b1151 [.slice A1147 y1138.f0.length c1148, .int .i64 y1138.f1.f0, .int .i64 y1138.f1.f1, .int .i64 y1138.f1.f2, .int .i64 y1138.f1.f3] 37 :: Row (Kd.slice 3 (Kd.int .i64)) 38 (.slice A623 l622.length c624) l622 :: L)) rfl fsz37 rfl rfl rfl rfl rfl (Nat.le_of_ble_eq_true rfl) rfl rfl ?_)
    refine TL.nil ?_
    refine TQ.then_ ?_
    refine TC.seq ?_
    refine TC.region ?_
    refine TL.cons (TO.val rfl rfl rfl (Val.fieldAddrB Tryd.underlying37 rfl fsz35 rfl rfl rfl) ?_)
    refine TL.cons (TO.val rfl rfl rfl (Val.fieldAddrB Tryd.underlying35 rfl fsz3 rfl rfl rfl) ?_)
    refine TL.cons (TO.val rfl rfl rfl (Val.loadB 0 agg3 rfl rfl rfl) ?_)
    refine TL.nil ?_
    refine TQ.then_ ?_
    refine TC.block ?_
    refine TC.seq ?_
    refine TC.region ?_
    refine TL.cons (TO.val rfl rfl rfl (Val.cmp rfl rfl run_eql) ?_)
    refine TL.cons (TO.val rfl rfl rfl (Val.assign rfl) ?_)
    refine TL.nil ?_
    refine TQ.then_ ?_
    obtain ⟨j1226, hj1226, h⟩ := jn_no h
    refine TC.tail (fun a W => ∃ (l1221 : (List (List Int))) (A1222 : Option Addr) (c1223 : Nat), j1226 l1221 = some o832 ∧ l1221.length = l622.length ∧ Fr 44 a [(3, .slice A1222 l1221.length c1223), (11, .slice A1 a0.f1.length c2), (12, .int .i64 (a0.f1.length : Int)), (13, .int .i64 x626)] ∧ Own G (Row (Kd.slice 3 (Kd.int .i64)) 38 (.slice A1222 l1221.length c1223) l1221 :: L) W) ?_ ?_
    ·
     rintro a W ⟨l1221, A1222, c1223, h, hl1225, hF, hO⟩
     rw [hj1226] at h
     refine TQ.use ?_ hF hO
     clear hF hO
     refine TQ.inB ?_
     refine TQ.inB ?_
     refine TQ.then_ ?_
     refine TC.region ?_
     refine TL.cons (TO.val rfl rfl rfl (Val.cmp rfl rfl run_add) ?_)
     refine TL.cons (TO.val rfl rfl rfl (Val.move rfl) ?_)
     refine TL.nil ?_
     exact fun a W hF hO => ⟨l1221, IntKind.i64.wrap (x626 + 1), A1222, c1223, h, hF.sub ⟨rfl, rfl, rfl, rfl, trivial⟩, hO.selT (Ls := [Row (Kd.slice 3 (Kd.int .i64)) 38 (.slice A1222 l1221.length c1223) l1221]) [0] 1 rfl rfl rfl⟩
    ·
     refine TC.cond_p rfl h (fun hc1227 h => ?_) (fun hc1227 h => ?_)
     ·
      refine TC.region ?_
      refine TL.cons (TO.val rfl rfl rfl (Val.move rfl) ?_)
      refine TL.cons (TO.val rfl rfl rfl (Val.move rfl) ?_)
      refine TL.cons (TO.val rfl rfl rfl (Val.fieldAddrB Tryd.underlying37 rfl fsz35 rfl rfl rfl) ?_)
      refine TL.cons (TO.val rfl rfl rfl (Val.fieldAddrB Tryd.underlying35 rfl fsz3 rfl rfl rfl) ?_)
      refine TL.cons (TO.val rfl rfl rfl (Val.loadB 0 agg3 rfl rfl rfl) ?_)
      refine TL.cons (TO.val rfl rfl rfl (Val.fieldAddrB Tryd.underlying37 rfl fsz35 rfl rfl rfl) ?_)
      refine TL.cons (TO.val rfl rfl rfl (Val.fieldAddrB Tryd.underlying35 rfl fsz3 rfl rfl rfl) ?_)
      refine TL.cons (TO.val rfl rfl rfl (Val.loadB 0 agg3 rfl rfl rfl) ?_)
      refine TL.cons (TL.buildSlice (xs := [.tmp 27, .tmp 30]) (vs := [.int .i64 y1138.f1.f2, .int .i64 y1138.f1.f3]) (cs := [.int .i64 y1138.f1.f2, .int .i64 y1138.f1.f3]) rfl rfl Tryd.underlying38 zs3 rfl rfl rfl rfl rfl rfl rfl rfl (fun b1228 => ?_))
      obtain ⟨y1229, hy1230, h⟩ := bind_no h
      refine TK.opened 2 rfl hy1230 (fun b1231 hA1232 hi1233 hj1234 => ?_)
      refine TL.cons (TO.val rfl rfl rfl (Val.indexAddrW Tryd.underlying49 fsz38 rfl hA1232 rfl hi1233 hj1234) ?_)
      refine TK.new (Els.nil (Kd.int .i64)) ?_
      refine TK.new (El.of (k := (Kd.int .i64)) (xv := y1138.f1.f2) (cs := [.int .i64 y1138.f1.f2]) (fun W B => rfl)) ?_
      refine TK.sel (Ls := [Els (Kd.int .i64) [] [], El (Kd.int .i64) y1138.f1.f2 [.int .i64 y1138.f1.f2], Blk b1228 [.int .i64 y1138.f1.f2, .int .i64 y1138.f1.f3] 3, Blk b1151 [.slice A1147 y1138.f0.length c1148, .int .i64 y1138.f1.f0, .int .i64 y1138.f1.f1, .int .i64 y1138.f1.f2, .int .i64 y1138.f1.f3] 37, Row (Kd.slice 3 (Kd.int .i64)) 38 (.slice A623 l622.length c624) l622]) [1, 0, 2, 3, 4] 5 rfl rfl rfl ?_
      refine TK.two (ch := Els (Kd.int .i64) [y1138.f1.f2] [.int .i64 y1138.f1.f2]) (Els.snoc (Kd.int .i64)) ?_
      refine TK.new (El.of (k := (Kd.int .i64)) (xv := y1138.f1.f3) (cs := [.int .i64 y1138.f1.f3]) (fun W B => rfl)) ?_
      refine TK.sel (Ls := [Els (Kd.int .i64) [y1138.f1.f2] [.int .i64 y1138.f1.f2], El (Kd.int .i64) y1138.f1.f3 [.int .i64 y1138.f1.f3], Blk b1228 [.int .i64 y1138.f1.f2, .int .i64 y1138.f1.f3] 3, Blk b1151 [.slice A1147 y1138.f0.length c1148, .int .i64 y1138.f1.f0, .int .i64 y1138.f1.f1, .int .i64 y1138.f1.f2, .int .i64 y1138.f1.f3] 37, Row (Kd.slice 3 (Kd.int .i64)) 38 (.slice A623 l622.length c624) l622]) [1, 0, 2, 3, 4] 5 rfl rfl rfl ?_
      refine TK.two (ch := Els (Kd.int .i64) [y1138.f1.f2, y1138.f1.f3] [.int .i64 y1138.f1.f2, .int .i64 y1138.f1.f3]) (Els.snoc (Kd.int .i64)) ?_
      refine TK.sel (Ls := [Blk b1228 [.int .i64 y1138.f1.f2, .int .i64 y1138.f1.f3] 3, Els (Kd.int .i64) [y1138.f1.f2, y1138.f1.f3] [.int .i64 y1138.f1.f2, .int .i64 y1138.f1.f3], Blk b1151 [.slice A1147 y1138.f0.length c1148, .int .i64 y1138.f1.f0, .int .i64 y1138.f1.f1, .int .i64 y1138.f1.f2, .int .i64 y1138.f1.f3] 37, Row (Kd.slice 3 (Kd.int .i64)) 38 (.slice A623 l622.length c624) l622]) [1, 0, 2, 3] 4 rfl rfl rfl ?_
      refine TK.two (ch := Row (Kd.int .i64) 3 (.slice (some ⟨b1228, 0, none⟩) 2 2) ([y1138.f1.f2, y1138.f1.f3] : List Int)) (Row.lit (Kd.int .i64) rfl rfl) ?_
      refine TK.conv (ch' := El (Kd.slice 3 (Kd.int .i64)) ([y1138.f1.f2, y1138.f1.f3] : List Int) [.slice (some ⟨b1228, 0, none⟩) 2 2]) (fun B W F hh => ⟨_, rfl, hh⟩) ?_
      refine TK.sel (Ls := [Row (Kd.slice 3 (Kd.int .i64)) 38 (.slice A623 l622.length c624) l622, El (Kd.slice 3 (Kd.int .i64)) ([y1138.f1.f2, y1138.f1.f3] : List Int) [.slice (some ⟨b1228, 0, none⟩) 2 2], Blk b1151 [.slice A1147 y1138.f0.length c1148, .int .i64 y1138.f1.f0, .int .i64 y1138.f1.f1, .int .i64 y1138.f1.f2, .int .i64 y1138.f1.f3] 37]) [2, 0, 1] 3 rfl rfl rfl ?_
      refine TL.cons (TL.storeE (Kd.slice 3 (Kd.int .i64)) (xs := l622) (xv := ([y1138.f1.f2, y1138.f1.f3] : List Int)) (ds := [.slice (some ⟨b1228, 0, none⟩) 2 2]) rfl fsz38 hA1232 hy1230 rfl rfl rfl rfl (Nat.le_of_ble_eq_true rfl) (wholeM rfl) ?_)
      rw [show (l622.length : Nat) = (l622.set x626.toNat ([y1138.f1.f2, y1138.f1.f3] : List Int)).length from by simp only [List.length_set]]
      refine TL.nil ?_
      exact fun a W hF hO => ⟨(l622.set x626.toNat ([y1138.f1.f2, y1138.f1.f3] : List Int)), A623, c624, h, (by first | rfl | assumption | (simp only [List.length_set]; first | rfl | assumption)), hF.sub ⟨rfl, rfl, rfl, rfl, trivial⟩, hO.selT (Ls := [Row (Kd.slice 3 (Kd.int .i64)) 38 (.slice A623 (l622.set x626.toNat ([y1138.f1.f2, y1138.f1.f3] : List Int)).length c624) (l622.set x626.toNat ([y1138.f1.f2, y1138.f1.f3] : List Int))]) [0] 2 rfl rfl rfl⟩
     ·
      refine TC.seq ?_
      refine TC.region ?_
      refine TL.cons (TO.val rfl rfl rfl (Val.cmp rfl rfl run_eql) ?_)
      refine TL.cons (TO.val rfl rfl rfl (Val.assign rfl) ?_)
      refine TL.nil ?_
      refine TQ.then_ ?_
      refine TC.cond_p rfl h (fun hc1245 h => ?_) (fun hc1245 h => ?_)
      ·
       refine TC.region ?_
       refine TL.cons (TO.val rfl rfl rfl (Val.move rfl) ?_)
       refine TL.cons (TO.val rfl rfl rfl (Val.move rfl) ?_)
       refine TL.cons (TO.val rfl rfl rfl (Val.fieldAddrB Tryd.underlying37 rfl fsz35 rfl rfl rfl) ?_)
       refine TL.cons (TO.val rfl rfl rfl (Val.fieldAddrB Tryd.underlying35 rfl fsz3 rfl rfl rfl) ?_)
       refine TL.cons (TO.val rfl rfl rfl (Val.loadB 0 agg3 rfl rfl rfl) ?_)
       refine TL.cons (TL.buildSlice (xs := [.tmp 39]) (vs := [.int .i64 y1138.f1.f2]) (cs := [.int .i64 y1138.f1.f2]) rfl rfl Tryd.underlying38 zs3 rfl rfl rfl rfl rfl rfl rfl rfl (fun b1246 => ?_))
       obtain ⟨y1247, hy1248, h⟩ := bind_no h
       refine TK.opened 2 rfl hy1248 (fun b1249 hA1250 hi1251 hj1252 => ?_)
       refine TL.cons (TO.val rfl rfl rfl (Val.indexAddrW Tryd.underlying49 fsz38 rfl hA1250 rfl hi1251 hj1252) ?_)
       refine TK.new (Els.nil (Kd.int .i64)) ?_
       refine TK.new (El.of (k := (Kd.int .i64)) (xv := y1138.f1.f2) (cs := [.int .i64 y1138.f1.f2]) (fun W B => rfl)) ?_
       refine TK.sel (Ls := [Els (Kd.int .i64) [] [], El (Kd.int .i64) y1138.f1.f2 [.int .i64 y1138.f1.f2], Blk b1246 [.int .i64 y1138.f1.f2] 3, Blk b1151 [.slice A1147 y1138.f0.length c1148, .int .i64 y1138.f1.f0, .int .i64 y1138.f1.f1, .int .i64 y1138.f1.f2, .int .i64 y1138.f1.f3] 37, Row (Kd.slice 3 (Kd.int .i64)) 38 (.slice A623 l622.length c624) l622]) [1, 0, 2, 3, 4] 5 rfl rfl rfl ?_
       refine TK.two (ch := Els (Kd.int .i64) [y1138.f1.f2] [.int .i64 y1138.f1.f2]) (Els.snoc (Kd.int .i64)) ?_
       refine TK.sel (Ls := [Blk b1246 [.int .i64 y1138.f1.f2] 3, Els (Kd.int .i64) [y1138.f1.f2] [.int .i64 y1138.f1.f2], Blk b1151 [.slice A1147 y1138.f0.length c1148, .int .i64 y1138.f1.f0, .int .i64 y1138.f1.f1, .int .i64 y1138.f1.f2, .int .i64 y1138.f1.f3] 37, Row (Kd.slice 3 (Kd.int .i64)) 38 (.slice A623 l622.length c624) l622]) [1, 0, 2, 3] 4 rfl rfl rfl ?_
       refine TK.two (ch := Row (Kd.int .i64) 3 (.slice (some ⟨b1246, 0, none⟩) 1 1) ([y1138.f1.f2] : List Int)) (Row.lit (Kd.int .i64) rfl rfl) ?_
       refine TK.conv (ch' := El (Kd.slice 3 (Kd.int .i64)) ([y1138.f1.f2] : List Int) [.slice (some ⟨b1246, 0, none⟩) 1 1]) (fun B W F hh => ⟨_, rfl, hh⟩) ?_
       refine TK.sel (Ls := [Row (Kd.slice 3 (Kd.int .i64)) 38 (.slice A623 l622.length c624) l622, El (Kd.slice 3 (Kd.int .i64)) ([y1138.f1.f2] : List Int) [.slice (some ⟨b1246, 0, none⟩) 1 1], Blk b1151 [.slice A1147 y1138.f0.length c1148, .int .i64 y1138.f1.f0, .int .i64 y1138.f1.f1, .int .i64 y1138.f1.f2, .int .i64 y1138.f1.f3] 37]) [2, 0, 1] 3 rfl rfl rfl ?_
       refine TL.cons (TL.storeE (Kd.slice 3 (Kd.int .i64)) (xs := l622) (xv := ([y1138.f1.f2] : List Int)) (ds := [.slice (some ⟨b1246, 0, none⟩) 1 1]) rfl fsz38 hA1250 hy1248 rfl rfl rfl rfl (Nat.le_of_ble_eq_true rfl) (wholeM rfl) ?_)
       rw [show (l622.length : Nat) = (l622.set x626.toNat ([y1138.f1.f2] : List Int)).length from by simp only [List.length_set]]
       refine TL.nil ?_
       exact fun a W hF hO => ⟨(l622.set x626.toNat ([y1138.f1.f2] : List Int)), A623, c624, h, (by first | rfl | assumption | (simp only [List.length_set]; first | rfl | assumption)), hF.sub ⟨rfl, rfl, rfl, rfl, trivial⟩, hO.selT (Ls := [Row (Kd.slice 3 (Kd.int .i64)) 38 (.slice A623 (l622.set x626.toNat ([y1138.f1.f2] : List Int)).length c624) (l622.set x626.toNat ([y1138.f1.f2] : List Int))]) [0] 2 rfl rfl rfl⟩
      ·
       refine TC.skip ?_
       exact fun a W hF hO => ⟨l622, A623, c624, h, (by first | rfl | assumption | (simp only [List.length_set]; first | rfl | assumption)), hF.sub ⟨rfl, rfl, rfl, rfl, trivial⟩, hO.selT (Ls := [Row (Kd.slice 3 (Kd.int .i64)) 38 (.slice A623 l622.length c624) l622]) [1] 2 rfl rfl rfl⟩
   ·
    refine TC.exit ?_
    refine TQ.thenX ?_
    refine TQ.thenX ?_
    refine TQ.inBX ?_
    exact fun a W hF hO => ⟨l622, A623, c624, Option.some.inj h, hF.sub ⟨rfl, trivial⟩, hO.selT (Ls := [Row (Kd.slice 3 (Kd.int .i64)) 38 (.slice A623 l622.length c624) l622]) [0] 1 rfl rfl rfl⟩
end Go.Proofs.YtmacdhkfgoahcaaDoor.Sy
set_option linter.unusedVariables false
set_option linter.unusedSimpArgs false
set_option maxRecDepth 100000
set_option maxHeartbeats 4000000
namespace Go.Proofs.YtmacdhkfgoahcaaDoor.Sy
open Go Go.RowKit Go.Proofs.YtmacdhkfgoahcaaDoorW.PrintWords 
def graph_Right.l1 (a0 : (List (List Int))) (y16919 : (List Int)) (j18189 : (Int → Option (Sum Bool (Unit)))) : Nat → Int → Option (Sum (Sum Bool (Unit)) (Unit))
 | 0, _ => none
 | n18352 + 1, x18297 => (if x18297 < (y16919.length : Int) then (at? y16919 x18297).bind fun y18435 => jn (γ := (Sum (Sum Bool (Unit)) (Unit))) (fun (x18452 : Bool) => (if x18452 = true then (j18189 x18297).bind fun q_ => some (.inl q_) else graph_Right.l1 a0 y16919 j18189 n18352 (IntKind.i64.wrap (x18297 + 1)))) (fun (j18453 : (Bool → Option (Sum (Sum Bool (Unit)) (Unit)))) => (if y18435 < 0 then j18453 true else j18453 (decide ((a0.length : Int) ≤ y18435)))) else some (.inr ()))
def graph_Right.l0 (a0 : (List (List Int))) (j9757 : (Int → Option Bool)) : Nat → Int → Option (Sum Bool (Unit))
 | 0, _ => none
 | n14399 + 1, x12851 => (if x12851 < (a0.length : Int) then (at? a0 x12851).bind fun y16919 => jn (γ := (Sum Bool (Unit))) (fun (x17495 : Bool) => (if x17495 = true then (j9757 x12851).bind fun q_ => some (.inl q_) else graph_Right.l0 a0 j9757 n14399 (IntKind.i64.wrap (x12851 + 1)))) (fun (j17496 : (Bool → Option (Sum Bool (Unit)))) => (if 8 < (y16919.length : Int) then j17496 true else jn (γ := (Sum Bool (Unit))) (fun (x18188 : Int) => j17496 (decide (0 ≤ x18188))) (fun (j18189 : (Int → Option (Sum Bool (Unit)))) => (graph_Right.l1 a0 y16919 j18189 (y16919.length + 1) 0).bind fun | .inl q_ => some q_ | .inr _ => (j18189 (-1))))) else some (.inr ()))
def graph_Right.f (a0 : (List (List Int))) : Option Bool := (if 1 ≤ (a0.length : Int) then (if (a0.length : Int) ≤ 4096 then jn (γ := Bool) (fun (x9756 : Int) => some (!(decide (0 ≤ x9756)))) (fun (j9757 : (Int → Option Bool)) => (graph_Right.l0 a0 j9757 (a0.length + 1) 0).bind fun | .inl q_ => some q_ | .inr _ => (j9757 (-1))) else some false) else some false)
def graph_Right.post (G : Gd) (r : Bool) (v : Value) (G' : Gd) (Lr : List Ch) : Prop := G = G' ∧ v = .bool r ∧ Lr = []
theorem graph_Right.calls {G : Gd} {r : Bool} {a0 : (List (List Int))} {A1 : Option Addr} {c2 : Nat} (hr3 : Rd G (Kd.slice 3 (Kd.int .i64)) A1 a0) (hl4 : a0.length ≤ c2) (h : graph_Right.f a0 = some r) : Fn Tryd.prog 36 G [] [.slice A1 a0.length c2] (graph_Right.post G r) := by
 refine Fn.intro (e := [(0, .slice A1 a0.length c2)]) 19 Tryd.func36 rfl Tryd.ntmps36 rfl rfl (Nat.le_of_ble_eq_true rfl) (fun L => ?_)
 unfold graph_Right.f at h
 refine TC.seq ?_
 refine TC.region ?_
 refine TL.cons (TL.box (cs := [.slice A1 a0.length c2]) rfl rfl rfl rfl (fun b5 => ?_))
 refine TL.cons (TO.val rfl rfl rfl (Val.assign rfl) ?_)
 refine TL.nil ?_
 refine TQ.then_ ?_
 refine TC.seq ?_
 refine TC.region ?_
 refine TL.cons (TO.val rfl rfl rfl (Val.makeFunc (xs := []) (ys := [.pointer (some ⟨b5, 0, none⟩)]) rfl rfl) ?_)
 refine TL.cons (TO.val rfl rfl rfl (Val.assign rfl) ?_)
 refine TL.nil ?_
 refine TQ.then_ ?_
 refine TC.seq ?_
 refine TC.region ?_
 refine TL.cons (TO.val rfl rfl rfl (Val.loadB 0 agg49 rfl rfl rfl) ?_)
 refine TL.cons (TO.val rfl rfl rfl (Val.len Tryd.underlying49 rfl) ?_)
 refine TL.cons (TO.val rfl rfl rfl (Val.cmp rfl rfl run_geq) ?_)
 refine TL.cons (TO.val rfl rfl rfl (Val.move rfl) ?_)
 refine TK.split (p := 1 ≤ (a0.length : Int)) h (fun hg4143 h => ?_) (fun hg4143 h => ?_)
 ·
  have hk4144 : decide (1 ≤ (a0.length : Int)) = true := decide_eq_true hg4143
  refine TL.cons (TO.val (Wt.yes rfl rfl rfl hk4144) rfl rfl (Val.loadB 0 agg49 rfl rfl rfl) ?_)
  refine TL.cons (TO.val (Wt.yes rfl rfl rfl hk4144) rfl rfl (Val.len Tryd.underlying49 rfl) ?_)
  refine TL.cons (TO.val (Wt.yes rfl rfl rfl hk4144) rfl rfl (Val.cmp rfl rfl run_leq) ?_)
  refine TL.cons (TO.val rfl rfl rfl (Val.pickY rfl hk4144 rfl) ?_)
  refine TL.cons (TO.val rfl rfl rfl (Val.move rfl) ?_)
  refine TK.split (p := (a0.length : Int) ≤ 4096) h (fun hg4145 h => ?_) (fun hg4145 h => ?_)
  ·
   have hk4146 : decide ((a0.length : Int) ≤ 4096) = true := decide_eq_true hg4145
   refine TL.cons (TO.val (Wt.yes rfl rfl rfl hk4146) rfl rfl (Val.loadB 0 agg49 rfl rfl rfl) ?_)
   refine TL.cons (TO.val (Wt.yes rfl rfl rfl hk4146) rfl rfl (Val.move rfl) ?_)
   refine TL.cons (TO.inl (args := [.slice A1 a0.length c2, .func (.func 73) #[] #[.pointer (some ⟨b5, 0, none⟩)]]) (e' := [(0, .slice A1 a0.length c2), (1, .func (.func 73) #[] #[.pointer (some ⟨b5, 0, none⟩)])]) 9 (Wt.yes rfl rfl rfl hk4146) rfl hbd75 rfl rfl Tryd.func75 rfl Tryd.ntmps75 rfl rfl (Nat.le_of_ble_eq_true rfl) (fun a4147 hf4148 => ?_))
   refine TC.seq ?_
   refine TC.region ?_
   refine TL.cons (TO.val rfl rfl rfl (Val.assign rfl) ?_)
   refine TL.nil ?_
   refine TQ.then_ ?_
   refine TC.seq ?_
   refine TC.region ?_
   refine TL.cons (TO.val rfl rfl rfl (Val.move rfl) ?_)
   refine TL.cons (TO.val rfl rfl rfl (Val.move rfl) ?_)
   refine TL.cons (TO.inl (args := [.slice A1 a0.length c2, .func (.func 73) #[] #[.pointer (some ⟨b5, 0, none⟩)]]) (e' := [(0, .slice A1 a0.length c2), (1, .func (.func 73) #[] #[.pointer (some ⟨b5, 0, none⟩)])]) 19 rfl rfl hbd88 rfl rfl Tryd.func88 rfl Tryd.ntmps88 rfl rfl (Nat.le_of_ble_eq_true rfl) (fun a7313 hf7314 => ?_))
   obtain ⟨j9757, hj9757, h⟩ := jn_no h
   refine TC.after (fun en W => ∃ (x9756 : Int), j9757 x9756 = some r ∧ en = .returned (.int .i64 x9756) ∧ Own G (Blk b5 [.slice A1 a0.length c2] 49 :: L) W) ?_ ?_
   ·
    rintro en W ⟨x9756, h, rfl, hO⟩
    rw [hj9757] at h
    refine (After.mk hf7314 rfl ?_) W hO
    clear hO
    refine TL.cons (TO.val rfl rfl rfl (Val.cmp rfl rfl run_geq) ?_)
    refine TL.cons (TO.val rfl rfl rfl (Val.assign rfl) ?_)
    refine TL.nil ?_
    refine TQ.then_ ?_
    refine TC.ret ?_
    refine TQ.fin (v := .bool (decide (0 ≤ x9756))) (.inl rfl) rfl Tryd.results75 (.tmp rfl .nil) rfl (After.mk hf4148 rfl ?_)
    refine TL.cons (TO.val (Wt.yes rfl rfl rfl hk4146) rfl rfl (Val.not_ rfl) ?_)
    refine TL.cons (TO.val rfl rfl rfl (Val.pickY rfl hk4146 rfl) ?_)
    refine TL.cons (TO.val rfl rfl rfl (Val.assign rfl) ?_)
    refine TL.nil ?_
    refine TQ.then_ ?_
    refine TC.ret ?_
    obtain rfl := Option.some.inj h
    exact TQ.fin (.inl rfl) rfl Tryd.results36 (.tmp rfl .nil) rfl (FRel.mk (Ls := []) [] 1 (Gd.le.refl _) rfl rfl rfl ⟨rfl, rfl, rfl⟩)
   ·
    refine TC.seq ?_
    refine TC.region ?_
    refine TL.cons (TO.val rfl rfl rfl (Val.assign rfl) ?_)
    refine TL.nil ?_
    refine TQ.then_ ?_
    refine TC.seq ?_
    refine TC.seq ?_
    refine TC.region ?_
    refine TL.cons (TO.val rfl rfl rfl (Val.move rfl) ?_)
    refine TL.cons (TO.val rfl rfl rfl (Val.len Tryd.underlying49 rfl) ?_)
    refine TL.cons (TO.val rfl rfl rfl (Val.move rfl) ?_)
    refine TL.nil ?_
    refine TQ.then_ ?_
    obtain ⟨o14398, ho14398, ko14398⟩ := bind_no h
    clear h
    refine TC.tail (fun a W => (.inr ()) = o14398 ∧ Fr 19 a [] ∧ Own G (Blk b5 [.slice A1 a0.length c2] 49 :: L) W) ?_ ?_
    ·
     rintro a W ⟨rfl, hF, hO⟩
     have h := ko14398
     clear ko14398 ho14398
     refine TQ.use ?_ hF hO
     clear hF hO
     refine TQ.then_ ?_
     refine TC.seq ?_
     refine TC.region ?_
     refine TL.cons (TO.val rfl rfl rfl (Val.assign rfl) ?_)
     refine TL.nil ?_
     refine TQ.then_ ?_
     refine TC.ret ?_
     exact TQ.fin (v := .int .i64 (-1)) (.inl rfl) rfl Tryd.results88 (.tmp rfl .nil) rfl (fun W hO => ⟨(-1), h, rfl, hO.selT (Ls := [Blk b5 [.slice A1 a0.length c2] 49]) [0] 1 rfl rfl rfl⟩)
    ·
     refine TC.block ?_
     intro a W hF hO
     have hS : ∃ (x12851 : Int), graph_Right.l0 a0 j9757 (a0.length + 1) x12851 = some o14398 ∧ Fr 19 a [(0, .slice A1 a0.length c2), (1, .func (.func 73) #[] #[.pointer (some ⟨b5, 0, none⟩)]), (7, .int .i64 (a0.length : Int)), (8, .int .i64 x12851)] ∧ Own G (Blk b5 [.slice A1 a0.length c2] 49 :: L) W := by
      exact ⟨0, ho14398, hF.sub ⟨rfl, rfl, rfl, rfl, trivial⟩, hO.selT (Ls := [Blk b5 [.slice A1 a0.length c2] 49]) [0] 1 rfl rfl rfl⟩
     clear hF hO ho14398
     refine TC.loop (fun n14399 a W => ∃ (x12851 : Int), graph_Right.l0 a0 j9757 n14399 x12851 = some o14398 ∧ Fr 19 a [(0, .slice A1 a0.length c2), (1, .func (.func 73) #[] #[.pointer (some ⟨b5, 0, none⟩)]), (7, .int .i64 (a0.length : Int)), (8, .int .i64 x12851)] ∧ Own G (Blk b5 [.slice A1 a0.length c2] 49 :: L) W) ?_ ?_ hS
     ·
      rintro a W ⟨x12851, h, hF, hO⟩
      exact none_no h
     ·
      clear hS
      rintro n14399 a W ⟨x12851, h, hF, hO⟩
      rw [graph_Right.l0] at h
      refine TC.use ?_ hF hO
      clear hF hO
      refine TC.seq ?_
      refine TC.region ?_
      refine TL.cons (TO.val rfl rfl rfl (Val.cmp rfl rfl run_lss) ?_)
      refine TL.nil ?_
      refine TQ.then_ ?_
      refine TC.seq ?_
      refine TC.cond_p rfl h (fun hc15947 h => ?_) (fun hc15947 h => ?_)
      ·
       refine TC.skip ?_
       refine TQ.then_ ?_
       refine TC.seq ?_
       refine TC.block ?_
       refine TC.seq ?_
       refine TC.region ?_
       refine TL.cons (TO.val rfl rfl rfl (Val.move rfl) ?_)
       refine TL.cons (TO.val rfl rfl rfl (Val.assign rfl) ?_)
       refine TL.nil ?_
       refine TQ.then_ ?_
       refine TC.seq ?_
       refine TC.region ?_
       refine TL.cons (TO.val rfl rfl rfl (Val.move rfl) ?_)
       refine TL.cons (TO.val rfl rfl rfl (Val.move rfl) ?_)
       refine TL.cons (TO.val rfl rfl rfl (Val.move rfl) ?_)
       obtain ⟨y16919, hx16920, h⟩ := bind_no h
       obtain ⟨ad16921, cs16927, hA16922, hi16923, hj16924, hcl16925, hK16926⟩ := Rd.at hr3 hx16920
       obtain ⟨A16928, c16929, rfl, hl16931, hr16930⟩ := RdK.slice hK16926
       refine TL.cons (TO.val rfl rfl rfl (Val.indexAddr Tryd.underlying49 fsz38 rfl hA16922 rfl hi16923 hj16924) ?_)
       refine TL.cons (TO.val rfl rfl rfl (Val.loadS agg38 rfl (hcl16925 0 _ rfl)) ?_)
       refine TL.cons (TO.inl (args := [.slice A16928 y16919.length c16929, .pointer (some ⟨b5, 0, none⟩)]) (e' := [(0, .slice A16928 y16919.length c16929), (1, .pointer (some ⟨b5, 0, none⟩))]) 12 rfl rfl hbd73 rfl rfl Tryd.func73 rfl Tryd.ntmps73 rfl rfl (Nat.le_of_ble_eq_true rfl) (fun a16932 hf16933 => ?_))
       obtain ⟨j17496, hj17496, h⟩ := jn_no h
       refine TC.after (fun en W => ∃ (x17495 : Bool), j17496 x17495 = some o14398 ∧ en = .returned (.bool x17495) ∧ Own G (Blk b5 [.slice A1 a0.length c2] 49 :: L) W) ?_ ?_
       ·
        rintro en W ⟨x17495, h, rfl, hO⟩
        rw [hj17496] at h
        refine (After.mk hf16933 rfl ?_) W hO
        clear hO
        refine TL.nil ?_
        refine TQ.then_ ?_
        refine TC.cond_b rfl h (fun hc17498 h => ?_) (fun hc17498 h => ?_)
        ·
         refine TC.seq ?_
         refine TC.region ?_
         refine TL.cons (TO.val rfl rfl rfl (Val.move rfl) ?_)
         refine TL.cons (TO.val rfl rfl rfl (Val.assign rfl) ?_)
         refine TL.nil ?_
         refine TQ.then_ ?_
         refine TC.ret ?_
         refine TQ.inBR ?_
         refine TQ.thenR ?_
         refine TQ.thenR ?_
         refine TQ.inBR ?_
         refine TQ.thenR ?_
         refine TQ.thenR ?_
         obtain ⟨q_, hq_, h⟩ := bind_no h
         obtain rfl := Option.some.inj h
         have h := ko14398
         obtain rfl := Option.some.inj h
         have h := hq_
         clear hq_
         exact TQ.fin (v := .int .i64 x12851) (.inl rfl) rfl Tryd.results88 (.tmp rfl .nil) rfl (fun W hO => ⟨x12851, h, rfl, hO.selT (Ls := [Blk b5 [.slice A1 a0.length c2] 49]) [0] 1 rfl rfl rfl⟩)
        ·
         refine TC.skip ?_
         refine TQ.inB ?_
         refine TQ.then_ ?_
         refine TC.region ?_
         refine TL.cons (TO.val rfl rfl rfl (Val.cmp rfl rfl run_add) ?_)
         refine TL.cons (TO.val rfl rfl rfl (Val.move rfl) ?_)
         refine TL.nil ?_
         exact fun a W hF hO => ⟨IntKind.i64.wrap (x12851 + 1), h, hF.sub ⟨rfl, rfl, rfl, rfl, trivial⟩, hO.selT (Ls := [Blk b5 [.slice A1 a0.length c2] 49]) [0] 1 rfl rfl rfl⟩
       ·
        refine TC.seq ?_
        refine TC.region ?_
        refine TL.cons (TO.val rfl rfl rfl (Val.assign rfl) ?_)
        refine TL.nil ?_
        refine TQ.then_ ?_
        refine TC.seq ?_
        refine TC.region ?_
        refine TL.cons (TO.val rfl rfl rfl (Val.move rfl) ?_)
        refine TL.cons (TO.val rfl rfl rfl (Val.len Tryd.underlying38 rfl) ?_)
        refine TL.cons (TO.val rfl rfl rfl (Val.cmp rfl rfl run_gtr) ?_)
        refine TL.cons (TO.val rfl rfl rfl (Val.move rfl) ?_)
        refine TK.split (p := 8 < (y16919.length : Int)) h (fun hg17832 h => ?_) (fun hg17832 h => ?_)
        ·
         have hk17833 : decide (8 < (y16919.length : Int)) = true := decide_eq_true hg17832
         refine TL.cons (TL.not (Wt.no rfl rfl rfl hk17833) rfl ?_)
         refine TL.cons (TL.not (Wt.no rfl rfl rfl hk17833) rfl ?_)
         refine TL.cons (TL.not (Wt.no rfl rfl rfl hk17833) rfl ?_)
         refine TL.cons (TO.val rfl rfl rfl (Val.pickY rfl hk17833 rfl) ?_)
         refine TL.cons (TO.val rfl rfl rfl (Val.assign rfl) ?_)
         refine TL.nil ?_
         refine TQ.then_ ?_
         refine TC.ret ?_
         exact TQ.fin (v := .bool true) (.inl rfl) rfl Tryd.results73 (.tmp rfl .nil) rfl (fun W hO => ⟨true, h, rfl, hO.selT (Ls := [Blk b5 [.slice A1 a0.length c2] 49]) [0] 1 rfl rfl rfl⟩)
        ·
         have hk17834 : decide (8 < (y16919.length : Int)) = false := decide_eq_false hg17832
         refine TL.cons (TO.val (Wt.yes rfl rfl rfl hk17834) rfl rfl (Val.move rfl) ?_)
         refine TL.cons (TO.val (Wt.yes rfl rfl rfl hk17834) rfl rfl (Val.makeFunc (xs := []) (ys := [.pointer (some ⟨b5, 0, none⟩)]) rfl rfl) ?_)
         refine TL.cons (TO.inl (args := [.slice A16928 y16919.length c16929, .func (.func 74) #[] #[.pointer (some ⟨b5, 0, none⟩)]]) (e' := [(0, .slice A16928 y16919.length c16929), (1, .func (.func 74) #[] #[.pointer (some ⟨b5, 0, none⟩)])]) 9 (Wt.yes rfl rfl rfl hk17834) rfl hbd53 rfl rfl Tryd.func53 rfl Tryd.ntmps53 rfl rfl (Nat.le_of_ble_eq_true rfl) (fun a17835 hf17836 => ?_))
         refine TC.seq ?_
         refine TC.region ?_
         refine TL.cons (TO.val rfl rfl rfl (Val.assign rfl) ?_)
         refine TL.nil ?_
         refine TQ.then_ ?_
         refine TC.seq ?_
         refine TC.region ?_
         refine TL.cons (TO.val rfl rfl rfl (Val.move rfl) ?_)
         refine TL.cons (TO.val rfl rfl rfl (Val.move rfl) ?_)
         refine TL.cons (TO.inl (args := [.slice A16928 y16919.length c16929, .func (.func 74) #[] #[.pointer (some ⟨b5, 0, none⟩)]]) (e' := [(0, .slice A16928 y16919.length c16929), (1, .func (.func 74) #[] #[.pointer (some ⟨b5, 0, none⟩)])]) 19 rfl rfl hbd81 rfl rfl Tryd.func81 rfl Tryd.ntmps81 rfl rfl (Nat.le_of_ble_eq_true rfl) (fun a18046 hf18047 => ?_))
         obtain ⟨j18189, hj18189, h⟩ := jn_no h
         refine TC.after (fun en W => ∃ (x18188 : Int), j18189 x18188 = some o14398 ∧ en = .returned (.int .i64 x18188) ∧ Own G (Blk b5 [.slice A1 a0.length c2] 49 :: L) W) ?_ ?_
         ·
          rintro en W ⟨x18188, h, rfl, hO⟩
          rw [hj18189] at h
          refine (After.mk hf18047 rfl ?_) W hO
          clear hO
          refine TL.cons (TO.val rfl rfl rfl (Val.cmp rfl rfl run_geq) ?_)
          refine TL.cons (TO.val rfl rfl rfl (Val.assign rfl) ?_)
          refine TL.nil ?_
          refine TQ.then_ ?_
          refine TC.ret ?_
          refine TQ.fin (v := .bool (decide (0 ≤ x18188))) (.inl rfl) rfl Tryd.results53 (.tmp rfl .nil) rfl (After.mk hf17836 rfl ?_)
          refine TL.cons (TO.val rfl rfl rfl (Val.pickN rfl hk17834 rfl) ?_)
          refine TL.cons (TO.val rfl rfl rfl (Val.assign rfl) ?_)
          refine TL.nil ?_
          refine TQ.then_ ?_
          refine TC.ret ?_
          exact TQ.fin (v := .bool (decide (0 ≤ x18188))) (.inl rfl) rfl Tryd.results73 (.tmp rfl .nil) rfl (fun W hO => ⟨decide (0 ≤ x18188), h, rfl, hO.selT (Ls := [Blk b5 [.slice A1 a0.length c2] 49]) [0] 1 rfl rfl rfl⟩)
         ·
          refine TC.seq ?_
          refine TC.region ?_
          refine TL.cons (TO.val rfl rfl rfl (Val.assign rfl) ?_)
          refine TL.nil ?_
          refine TQ.then_ ?_
          refine TC.seq ?_
          refine TC.seq ?_
          refine TC.region ?_
          refine TL.cons (TO.val rfl rfl rfl (Val.move rfl) ?_)
          refine TL.cons (TO.val rfl rfl rfl (Val.len Tryd.underlying38 rfl) ?_)
          refine TL.cons (TO.val rfl rfl rfl (Val.move rfl) ?_)
          refine TL.nil ?_
          refine TQ.then_ ?_
          obtain ⟨o18351, ho18351, ko18351⟩ := bind_no h
          clear h
          refine TC.tail (fun a W => (.inr ()) = o18351 ∧ Fr 19 a [] ∧ Own G (Blk b5 [.slice A1 a0.length c2] 49 :: L) W) ?_ ?_
          ·
           rintro a W ⟨rfl, hF, hO⟩
           have h := ko18351
           clear ko18351 ho18351
           refine TQ.use ?_ hF hO
           clear hF hO
           refine TQ.then_ ?_
           refine TC.seq ?_
           refine TC.region ?_
           refine TL.cons (TO.val rfl rfl rfl (Val.assign rfl) ?_)
           refine TL.nil ?_
           refine TQ.then_ ?_
           refine TC.ret ?_
           exact TQ.fin (v := .int .i64 (-1)) (.inl rfl) rfl Tryd.results81 (.tmp rfl .nil) rfl (fun W hO => ⟨(-1), h, rfl, hO.selT (Ls := [Blk b5 [.slice A1 a0.length c2] 49]) [0] 1 rfl rfl rfl⟩)
          ·
           refine TC.block ?_
           intro a W hF hO
           have hS : ∃ (x18297 : Int), graph_Right.l1 a0 y16919 j18189 (y16919.length + 1) x18297 = some o18351 ∧ Fr 19 a [(0, .slice A16928 y16919.length c16929), (1, .func (.func 74) #[] #[.pointer (some ⟨b5, 0, none⟩)]), (7, .int .i64 (y16919.length : Int)), (8, .int .i64 x18297)] ∧ Own G (Blk b5 [.slice A1 a0.length c2] 49 :: L) W := by
            exact ⟨0, ho18351, hF.sub ⟨rfl, rfl, rfl, rfl, trivial⟩, hO.selT (Ls := [Blk b5 [.slice A1 a0.length c2] 49]) [0] 1 rfl rfl rfl⟩
           clear hF hO ho18351
           refine TC.loop (fun n18352 a W => ∃ (x18297 : Int), graph_Right.l1 a0 y16919 j18189 n18352 x18297 = some o18351 ∧ Fr 19 a [(0, .slice A16928 y16919.length c16929), (1, .func (.func 74) #[] #[.pointer (some ⟨b5, 0, none⟩)]), (7, .int .i64 (y16919.length : Int)), (8, .int .i64 x18297)] ∧ Own G (Blk b5 [.slice A1 a0.length c2] 49 :: L) W) ?_ ?_ hS
           ·
            rintro a W ⟨x18297, h, hF, hO⟩
            exact none_no h
           ·
            clear hS
            rintro n18352 a W ⟨x18297, h, hF, hO⟩
            rw [graph_Right.l1] at h
            refine TC.use ?_ hF hO
            clear hF hO
            refine TC.seq ?_
            refine TC.region ?_
            refine TL.cons (TO.val rfl rfl rfl (Val.cmp rfl rfl run_lss) ?_)
            refine TL.nil ?_
            refine TQ.then_ ?_
            refine TC.seq ?_
            refine TC.cond_p rfl h (fun hc18407 h => ?_) (fun hc18407 h => ?_)
            ·
             refine TC.skip ?_
             refine TQ.then_ ?_
             refine TC.seq ?_
             refine TC.block ?_
             refine TC.seq ?_
             refine TC.region ?_
             refine TL.cons (TO.val rfl rfl rfl (Val.move rfl) ?_)
             refine TL.cons (TO.val rfl rfl rfl (Val.assign rfl) ?_)
             refine TL.nil ?_
             refine TQ.then_ ?_
             refine TC.seq ?_
             refine TC.region ?_
             refine TL.cons (TO.val rfl rfl rfl (Val.move rfl) ?_)
             refine TL.cons (TO.val rfl rfl rfl (Val.move rfl) ?_)
             refine TL.cons (TO.val rfl rfl rfl (Val.move rfl) ?_)
             obtain ⟨y18435, hx18436, h⟩ := bind_no h
             obtain ⟨ad18437, cs18443, hA18438, hi18439, hj18440, hcl18441, hK18442⟩ := Rd.at hr16930 hx18436
             obtain rfl := RdK.int hK18442
             refine TL.cons (TO.val rfl rfl rfl (Val.indexAddr Tryd.underlying38 fsz3 rfl hA18438 rfl hi18439 hj18440) ?_)
             refine TL.cons (TO.val rfl rfl rfl (Val.loadS agg3 rfl (hcl18441 0 _ rfl)) ?_)
             refine TL.cons (TO.inl (args := [.int .i64 y18435, .pointer (some ⟨b5, 0, none⟩)]) (e' := [(0, .int .i64 y18435), (1, .pointer (some ⟨b5, 0, none⟩))]) 12 rfl rfl hbd74 rfl rfl Tryd.func74 rfl Tryd.ntmps74 rfl rfl (Nat.le_of_ble_eq_true rfl) (fun a18444 hf18445 => ?_))
             obtain ⟨j18453, hj18453, h⟩ := jn_no h
             refine TC.after (fun en W => ∃ (x18452 : Bool), j18453 x18452 = some o18351 ∧ en = .returned (.bool x18452) ∧ Own G (Blk b5 [.slice A1 a0.length c2] 49 :: L) W) ?_ ?_
             ·
              rintro en W ⟨x18452, h, rfl, hO⟩
              rw [hj18453] at h
              refine (After.mk hf18445 rfl ?_) W hO
              clear hO
              refine TL.nil ?_
              refine TQ.then_ ?_
              refine TC.cond_b rfl h (fun hc18455 h => ?_) (fun hc18455 h => ?_)
              ·
               refine TC.seq ?_
               refine TC.region ?_
               refine TL.cons (TO.val rfl rfl rfl (Val.move rfl) ?_)
               refine TL.cons (TO.val rfl rfl rfl (Val.assign rfl) ?_)
               refine TL.nil ?_
               refine TQ.then_ ?_
               refine TC.ret ?_
               refine TQ.inBR ?_
               refine TQ.thenR ?_
               refine TQ.thenR ?_
               refine TQ.inBR ?_
               refine TQ.thenR ?_
               refine TQ.thenR ?_
               obtain ⟨q_, hq_, h⟩ := bind_no h
               obtain rfl := Option.some.inj h
               have h := ko18351
               obtain rfl := Option.some.inj h
               have h := hq_
               clear hq_
               exact TQ.fin (v := .int .i64 x18297) (.inl rfl) rfl Tryd.results81 (.tmp rfl .nil) rfl (fun W hO => ⟨x18297, h, rfl, hO.selT (Ls := [Blk b5 [.slice A1 a0.length c2] 49]) [0] 1 rfl rfl rfl⟩)
              ·
               refine TC.skip ?_
               refine TQ.inB ?_
               refine TQ.then_ ?_
               refine TC.region ?_
               refine TL.cons (TO.val rfl rfl rfl (Val.cmp rfl rfl run_add) ?_)
               refine TL.cons (TO.val rfl rfl rfl (Val.move rfl) ?_)
               refine TL.nil ?_
               exact fun a W hF hO => ⟨IntKind.i64.wrap (x18297 + 1), h, hF.sub ⟨rfl, rfl, rfl, rfl, trivial⟩, hO.selT (Ls := [Blk b5 [.slice A1 a0.length c2] 49]) [0] 1 rfl rfl rfl⟩
             ·
              refine TC.seq ?_
              refine TC.region ?_
              refine TL.cons (TO.val rfl rfl rfl (Val.assign rfl) ?_)
              refine TL.nil ?_
              refine TQ.then_ ?_
              refine TC.seq ?_
              refine TC.region ?_
              refine TL.cons (TO.val rfl rfl rfl (Val.move rfl) ?_)
              refine TL.cons (TO.val rfl rfl rfl (Val.cmp rfl rfl run_lss) ?_)
              refine TL.cons (TO.val rfl rfl rfl (Val.move rfl) ?_)
              refine TK.split (p := y18435 < 0) h (fun hg18459 h => ?_) (fun hg18459 h => ?_)
              ·
               have hk18460 : decide (y18435 < 0) = true := decide_eq_true hg18459
               refine TL.cons (TL.not (Wt.no rfl rfl rfl hk18460) rfl ?_)
               refine TL.cons (TL.not (Wt.no rfl rfl rfl hk18460) rfl ?_)
               refine TL.cons (TL.not (Wt.no rfl rfl rfl hk18460) rfl ?_)
               refine TL.cons (TL.not (Wt.no rfl rfl rfl hk18460) rfl ?_)
               refine TL.cons (TO.val rfl rfl rfl (Val.pickY rfl hk18460 rfl) ?_)
               refine TL.cons (TO.val rfl rfl rfl (Val.assign rfl) ?_)
               refine TL.nil ?_
               refine TQ.then_ ?_
               refine TC.ret ?_
               exact TQ.fin (v := .bool true) (.inl rfl) rfl Tryd.results74 (.tmp rfl .nil) rfl (fun W hO => ⟨true, h, rfl, hO.selT (Ls := [Blk b5 [.slice A1 a0.length c2] 49]) [0] 1 rfl rfl rfl⟩)
              ·
               have hk18461 : decide (y18435 < 0) = false := decide_eq_false hg18459
               refine TL.cons (TO.val (Wt.yes rfl rfl rfl hk18461) rfl rfl (Val.move rfl) ?_)
               refine TL.cons (TO.val (Wt.yes rfl rfl rfl hk18461) rfl rfl (Val.loadB 0 agg49 rfl rfl rfl) ?_)
               refine TL.cons (TO.val (Wt.yes rfl rfl rfl hk18461) rfl rfl (Val.len Tryd.underlying49 rfl) ?_)
               refine TL.cons (TO.val (Wt.yes rfl rfl rfl hk18461) rfl rfl (Val.cmp rfl rfl run_geq) ?_)
               refine TL.cons (TO.val rfl rfl rfl (Val.pickN rfl hk18461 rfl) ?_)
               refine TL.cons (TO.val rfl rfl rfl (Val.assign rfl) ?_)
               refine TL.nil ?_
               refine TQ.then_ ?_
               refine TC.ret ?_
               exact TQ.fin (v := .bool (decide ((a0.length : Int) ≤ y18435))) (.inl rfl) rfl Tryd.results74 (.tmp rfl .nil) rfl (fun W hO => ⟨decide ((a0.length : Int) ≤ y18435), h, rfl, hO.selT (Ls := [Blk b5 [.slice A1 a0.length c2] 49]) [0] 1 rfl rfl rfl⟩)
            ·
             refine TC.exit ?_
             refine TQ.thenX ?_
             refine TQ.thenX ?_
             refine TQ.inBX ?_
             exact fun a W hF hO => ⟨Option.some.inj h, hF.sub trivial, hO.selT (Ls := [Blk b5 [.slice A1 a0.length c2] 49]) [0] 1 rfl rfl rfl⟩
      ·
       refine TC.exit ?_
       refine TQ.thenX ?_
       refine TQ.thenX ?_
       refine TQ.inBX ?_
       exact fun a W hF hO => ⟨Option.some.inj h, hF.sub trivial, hO.selT (Ls := [Blk b5 [.slice A1 a0.length c2] 49]) [0] 1 rfl rfl rfl⟩
  ·
   have hk18462 : decide ((a0.length : Int) ≤ 4096) = false := decide_eq_false hg4145
   refine TL.cons (TL.not (Wt.no rfl rfl rfl hk18462) rfl ?_)
   refine TL.cons (TL.not (Wt.no rfl rfl rfl hk18462) rfl ?_)
   refine TL.cons (TL.not (Wt.no rfl rfl rfl hk18462) rfl ?_)
   refine TL.cons (TL.not (Wt.no rfl rfl rfl hk18462) rfl ?_)
   refine TL.cons (TO.val rfl rfl rfl (Val.pickN rfl hk18462 rfl) ?_)
   refine TL.cons (TO.val rfl rfl rfl (Val.assign rfl) ?_)
   refine TL.nil ?_
   refine TQ.then_ ?_
   refine TC.ret ?_
   obtain rfl := Option.some.inj h
   exact TQ.fin (.inl rfl) rfl Tryd.results36 (.tmp rfl .nil) rfl (FRel.mk (Ls := []) [] 1 (Gd.le.refl _) rfl rfl rfl ⟨rfl, rfl, rfl⟩)
 ·
  have hk18463 : decide (1 ≤ (a0.length : Int)) = false := decide_eq_false hg4143
  refine TL.cons (TL.not (Wt.no rfl rfl rfl hk18463) rfl ?_)
  refine TL.cons (TL.not (Wt.no rfl rfl rfl hk18463) rfl ?_)
  refine TL.cons (TL.not (Wt.no rfl rfl rfl hk18463) rfl ?_)
  refine TL.cons (TO.val rfl rfl rfl (Val.pickN rfl hk18463 rfl) ?_)
  refine TL.cons (TO.val rfl rfl rfl (Val.move rfl) ?_)
  refine TL.cons (TL.not (Wt.no rfl rfl rfl rfl) rfl ?_)
  refine TL.cons (TL.not (Wt.no rfl rfl rfl rfl) rfl ?_)
  refine TL.cons (TL.not (Wt.no rfl rfl rfl rfl) rfl ?_)
  refine TL.cons (TL.not (Wt.no rfl rfl rfl rfl) rfl ?_)
  refine TL.cons (TO.val rfl rfl rfl (Val.pickN rfl rfl rfl) ?_)
  refine TL.cons (TO.val rfl rfl rfl (Val.assign rfl) ?_)
  refine TL.nil ?_
  refine TQ.then_ ?_
  refine TC.ret ?_
  obtain rfl := Option.some.inj h
  exact TQ.fin (.inl rfl) rfl Tryd.results36 (.tmp rfl .nil) rfl (FRel.mk (Ls := []) [] 1 (Gd.le.refl _) rfl rfl rfl ⟨rfl, rfl, rfl⟩)
end Go.Proofs.YtmacdhkfgoahcaaDoor.Sy
set_option linter.unusedVariables false
set_option linter.unusedSimpArgs false
set_option maxRecDepth 100000
set_option maxHeartbeats 4000000
namespace Go.Proofs.YtmacdhkfgoahcaaDoor.Sy
open Go Go.RowKit Go.Proofs.YtmacdhkfgoahcaaDoorW.PrintWords 
def swagelaw14_CodeTexts.l2 (y36 : Int) (y5374 : (List Int)) : Nat → Int → Option (Sum (Sum (Sum Bool (Unit)) (Unit)) (Unit))
 | 0, _ => none
 | n5628 + 1, x5544 => (if x5544 < (y5374.length : Int) then jn (γ := (Sum (Sum (Sum Bool (Unit)) (Unit)) (Unit))) (fun (x5771 : Bool) => (if x5771 = true then some (.inl (.inl (.inl false))) else swagelaw14_CodeTexts.l2 y36 y5374 n5628 (IntKind.i64.wrap (x5544 + 1)))) (fun (j5772 : (Bool → Option (Sum (Sum (Sum Bool (Unit)) (Unit)) (Unit)))) => (at? y5374 x5544).bind fun y5781 => (if y5781 < 1 then j5772 true else j5772 (decide (y36 < y5781)))) else some (.inr ()))
def swagelaw14_CodeTexts.l1 (a0 : S27) (y36 : Int) (x1665 : Int) : Nat → Int → Option (Sum (Sum Bool (Unit)) (Unit))
 | 0, _ => none
 | n4844 + 1, x4544 => (at? a0.f1 x1665).bind fun y5143 => (if x4544 < (y5143.f0.length : Int) then (at? y5143.f0 x4544).bind fun y5361 => (code_Uses.f y5361).bind fun (y5374 : (List Int)) => (swagelaw14_CodeTexts.l2 y36 y5374 (y5374.length + 1) 0).bind fun | .inl q_ => some q_ | .inr _ => (swagelaw14_CodeTexts.l1 a0 y36 x1665 n4844 (IntKind.i64.wrap (x4544 + 1))) else some (.inr ()))
def swagelaw14_CodeTexts.l0 (a0 : S27) (y36 : Int) : Nat → Int → Option (Sum Bool (Unit))
 | 0, _ => none
 | n2480 + 1, x1665 => (if x1665 < (a0.f1.length : Int) then (swagelaw14_CodeTexts.l1 a0 y36 x1665 ((at? a0.f1 x1665).elim 0 (fun vy4845 => vy4845.f0.length) + 1) 0).bind fun | .inl q_ => some q_ | .inr _ => (swagelaw14_CodeTexts.l0 a0 y36 n2480 (IntKind.i64.wrap (x1665 + 1))) else some (.inr ()))
def swagelaw14_CodeTexts.f (a0 : S27) (a1 : S27) (a2 : Int) : Option Bool := (swagelaw14_small.f).bind fun (y11 : Bool) => jn (γ := Bool) (fun (x20 : Bool) => jn (γ := Bool) (fun (x32 : Bool) => (if x32 = true then some y11 else (code_Regs.f a0).bind fun (y36 : Int) => (swagelaw14_CodeTexts.l0 a0 y36 (a0.f1.length + 1) 0).bind fun | .inl q_ => some q_ | .inr _ => (if y11 = true then (code_Text.f a0).bind fun (y3389 : ByteArray) => (code_Text.f a1).bind fun (y3391 : ByteArray) => (code_Same.f a0 a1).bind fun (y3393 : Bool) => (if ((y3389.data.toList == y3391.data.toList) == y3393) = true then (code_Succ.f a0).bind fun (y3397 : (List (List Int))) => (graph_Right.f y3397).bind fun (y3408 : Bool) => (if y3408 = true then (if a0.f0 ≤ y36 then some (decide (y36 ≤ 4096)) else some false) else some false) else some false) else some false))) (fun (j33 : (Bool → Option Bool)) => (if (!x20) = true then j33 true else (code_Right.f a0 a2).bind fun (y5796 : Bool) => (if (!y5796) = true then j33 true else (code_Right.f a1 a2).bind fun (y5801 : Bool) => j33 (!y5801))))) (fun (j21 : (Bool → Option Bool)) => (swagelaw14_Few.f a0).bind fun (y5803 : Bool) => (if y5803 = true then (swagelaw14_Few.f a1).bind fun (y5807 : Bool) => j21 y5807 else j21 false))
def swagelaw14_CodeTexts.post (G : Gd) (r : Bool) (v : Value) (G' : Gd) (Lr : List Ch) : Prop := G = G' ∧ v = .bool r ∧ Lr = []
theorem swagelaw14_CodeTexts.calls {G : Gd} {r : Bool} {a0 : S27} {a1 : S27} {a2 : Int} {A1 : Option Addr} {c2 : Nat} {A5 : Option Addr} {c6 : Nat} (ht : Tab G) (hr3 : Rd G k37 A1 a0.f1) (hl4 : a0.f1.length ≤ c2) (hr7 : Rd G k37 A5 a1.f1) (hl8 : a1.f1.length ≤ c6) (h : swagelaw14_CodeTexts.f a0 a1 a2 = some r) : Fn Tryd.prog 6 G [] [.agg #[.int .i64 a0.f0, .slice A1 a0.f1.length c2], .agg #[.int .i64 a1.f0, .slice A5 a1.f1.length c6], .int .i64 a2] (swagelaw14_CodeTexts.post G r) := by
 refine Fn.intro (e := [(0, .agg #[.int .i64 a0.f0, .slice A1 a0.f1.length c2]), (1, .agg #[.int .i64 a1.f0, .slice A5 a1.f1.length c6]), (2, .int .i64 a2)]) 112 Tryd.func6 rfl Tryd.ntmps6 rfl rfl (Nat.le_of_ble_eq_true rfl) (fun L => ?_)
 unfold swagelaw14_CodeTexts.f at h
 refine TC.seq ?_
 refine TC.region ?_
 refine TL.cons (TL.box (cs := [.int .i64 a0.f0, .slice A1 a0.f1.length c2]) rfl rfl rfl rfl (fun b9 => ?_))
 refine TL.cons (TL.box (cs := [.int .i64 a1.f0, .slice A5 a1.f1.length c6]) rfl rfl rfl rfl (fun b10 => ?_))
 refine TL.cons (TO.val rfl rfl rfl (Val.assign rfl) ?_)
 refine TL.nil ?_
 refine TQ.then_ ?_
 refine TC.seq ?_
 refine TC.region ?_
 obtain ⟨y11, hy12, h⟩ := bind_no h
 refine TL.cons (TL.callV (Lin := []) (args := []) rfl rfl rfl hbd7 rfl rfl (swagelaw14_small.calls ht hy12) rfl ?_)
 rintro _ _ _ _ ⟨rfl, rfl, rfl⟩
 refine TL.cons (TO.val rfl rfl rfl (Val.assign rfl) ?_)
 refine TL.nil ?_
 refine TQ.then_ ?_
 refine TC.seq ?_
 obtain ⟨j21, hj21, h⟩ := jn_no h
 refine TC.tail (fun a W => ∃ (x20 : Bool), j21 x20 = some r ∧ Fr 112 a [(2, .int .i64 a2), (3, .pointer (some ⟨b9, 0, none⟩)), (4, .pointer (some ⟨b10, 0, none⟩)), (7, .bool y11), (8, .bool x20)] ∧ Own G (Blk b10 [.int .i64 a1.f0, .slice A5 a1.f1.length c6] 27 :: Blk b9 [.int .i64 a0.f0, .slice A1 a0.f1.length c2] 27 :: L) W) ?_ ?_
 ·
  rintro a W ⟨x20, h, hF, hO⟩
  rw [hj21] at h
  refine TQ.use ?_ hF hO
  clear hF hO
  refine TQ.then_ ?_
  refine TC.seq ?_
  refine TC.seq ?_
  obtain ⟨j33, hj33, h⟩ := jn_no h
  refine TC.tail (fun a W => ∃ (x32 : Bool), j33 x32 = some r ∧ Fr 112 a [(3, .pointer (some ⟨b9, 0, none⟩)), (4, .pointer (some ⟨b10, 0, none⟩)), (7, .bool y11), (34, .bool x32)] ∧ Own G (Blk b10 [.int .i64 a1.f0, .slice A5 a1.f1.length c6] 27 :: Blk b9 [.int .i64 a0.f0, .slice A1 a0.f1.length c2] 27 :: L) W) ?_ ?_
  ·
   rintro a W ⟨x32, h, hF, hO⟩
   rw [hj33] at h
   refine TQ.use ?_ hF hO
   clear hF hO
   refine TQ.then_ ?_
   refine TC.cond_b rfl h (fun hc35 h => ?_) (fun hc35 h => ?_)
   ·
    refine TC.seq ?_
    refine TC.region ?_
    refine TL.cons (TO.val rfl rfl rfl (Val.move rfl) ?_)
    refine TL.cons (TO.val rfl rfl rfl (Val.assign rfl) ?_)
    refine TL.nil ?_
    refine TQ.then_ ?_
    refine TC.ret ?_
    refine TQ.thenR ?_
    obtain rfl := Option.some.inj h
    exact TQ.fin (.inl rfl) rfl Tryd.results6 (.tmp rfl .nil) rfl (FRel.mk (Ls := []) [] 2 (Gd.le.refl _) rfl rfl rfl ⟨rfl, rfl, rfl⟩)
   ·
    refine TC.skip ?_
    refine TQ.then_ ?_
    refine TC.seq ?_
    refine TC.region ?_
    refine TL.cons (TO.val rfl rfl rfl (Val.loadsB 1 (cs := [.int .i64 a0.f0, .slice A1 a0.f1.length c2]) agg27 fsz27 rfl rfl rfl rfl) ?_)
    obtain ⟨y36, hy37, h⟩ := bind_no h
    refine TL.cons (TL.callV (Lin := []) (args := [.agg #[.int .i64 a0.f0, .slice A1 a0.f1.length c2]]) rfl rfl rfl hbd32 rfl rfl (code_Regs.calls (a0 := a0) hr3 hl4 hy37) rfl ?_)
    rintro _ _ _ _ ⟨rfl, rfl, rfl⟩
    refine TL.cons (TO.val rfl rfl rfl (Val.assign rfl) ?_)
    refine TL.nil ?_
    refine TQ.then_ ?_
    refine TC.seq ?_
    refine TC.seq ?_
    refine TC.region ?_
    refine TL.cons (TO.val rfl rfl rfl (Val.assign rfl) ?_)
    refine TL.nil ?_
    refine TQ.then_ ?_
    obtain ⟨o2479, ho2479, ko2479⟩ := bind_no h
    clear h
    refine TC.tail (fun a W => (.inr ()) = o2479 ∧ Fr 112 a [(3, .pointer (some ⟨b9, 0, none⟩)), (4, .pointer (some ⟨b10, 0, none⟩)), (7, .bool y11), (9, .int .i64 y36)] ∧ Own G (Blk b10 [.int .i64 a1.f0, .slice A5 a1.f1.length c6] 27 :: Blk b9 [.int .i64 a0.f0, .slice A1 a0.f1.length c2] 27 :: L) W) ?_ ?_
    ·
     rintro a W ⟨rfl, hF, hO⟩
     have h := ko2479
     clear ko2479 ho2479
     refine TQ.use ?_ hF hO
     clear hF hO
     refine TQ.then_ ?_
     refine TC.seq ?_
     refine TC.regionAny [] [0, 1, 2, 3, 4, 5, 6, 7, 8, 9, 10, 11, 12, 13, 14, 15, 16, 17, 18, 19, 20, 21, 22, 23, 24, 25, 26, 27] mixed (by kernel_rfl) ?_
     refine TA.take 0 rfl (by kernel_rfl) rfl (PQ.then_ PQ.body) rfl (Val.move rfl) (fun W hO => hO) ?_
     refine TA.take 1 rfl (by kernel_rfl) rfl (PQ.then_ PQ.body) rfl (Val.move rfl) (fun W hO => hO) ?_
     refine TK.split (p := y11 = true) h (fun hg3387 h => ?_) (fun hg3387 h => ?_)
     ·
      have hk3388 : y11 = true := hg3387
      refine TA.take 2 rfl (by kernel_rfl) rfl (PQ.then_ PQ.body) (Wt.yes rfl rfl rfl hk3388) (Val.loadsB 1 (cs := [.int .i64 a0.f0, .slice A1 a0.f1.length c2]) agg27 fsz27 rfl rfl rfl rfl) (fun W hO => hO) ?_
      refine TA.take 4 rfl (by kernel_rfl) rfl (PQ.then_ PQ.body) (Wt.yes rfl rfl rfl hk3388) (Val.loadsB 0 (cs := [.int .i64 a1.f0, .slice A5 a1.f1.length c6]) agg27 fsz27 rfl rfl rfl rfl) (fun W hO => hO) ?_
      refine TA.take 7 rfl (by kernel_rfl) rfl (PQ.then_ PQ.body) (Wt.yes rfl rfl rfl hk3388) (Val.loadsB 1 (cs := [.int .i64 a0.f0, .slice A1 a0.f1.length c2]) agg27 fsz27 rfl rfl rfl rfl) (fun W hO => hO) ?_
      refine TA.take 8 rfl (by kernel_rfl) rfl (PQ.then_ PQ.body) (Wt.yes rfl rfl rfl hk3388) (Val.loadsB 0 (cs := [.int .i64 a1.f0, .slice A5 a1.f1.length c6]) agg27 fsz27 rfl rfl rfl rfl) (fun W hO => hO) ?_
      obtain ⟨y3389, hy3390, h⟩ := bind_no h
      refine TA.eff 3 rfl (by kernel_rfl) rfl (TL.callV (Lin := []) (args := [.agg #[.int .i64 a0.f0, .slice A1 a0.f1.length c2]]) (Wt.yes rfl rfl rfl hk3388) rfl rfl hbd34 rfl rfl (code_Text.calls (a0 := a0) ht hr3 hl4 hy3390) rfl ?_)
      rintro _ _ _ _ ⟨rfl, rfl, rfl⟩
      refine TA.next (fun W hO => hO) ?_
      obtain ⟨y3391, hy3392, h⟩ := bind_no h
      refine TA.eff 5 rfl (by kernel_rfl) rfl (TL.callV (Lin := []) (args := [.agg #[.int .i64 a1.f0, .slice A5 a1.f1.length c6]]) (Wt.yes rfl rfl rfl hk3388) rfl rfl hbd34 rfl rfl (code_Text.calls (a0 := a1) ht hr7 hl8 hy3392) rfl ?_)
      rintro _ _ _ _ ⟨rfl, rfl, rfl⟩
      refine TA.next (fun W hO => hO) ?_
      refine TA.take 6 rfl (by kernel_rfl) rfl (PQ.then_ PQ.body) (Wt.yes rfl rfl rfl hk3388) (Val.eqT rfl rfl) (fun W hO => hO) ?_
      obtain ⟨y3393, hy3394, h⟩ := bind_no h
      refine TA.eff 9 rfl (by kernel_rfl) rfl (TL.callV (Lin := []) (args := [.agg #[.int .i64 a0.f0, .slice A1 a0.f1.length c2], .agg #[.int .i64 a1.f0, .slice A5 a1.f1.length c6]]) (Wt.yes rfl rfl rfl hk3388) rfl rfl hbd13 rfl rfl (code_Same.calls (a0 := a0) (a1 := a1) hr3 hl4 hr7 hl8 hy3394) rfl ?_)
      rintro _ _ _ _ ⟨rfl, rfl, rfl⟩
      refine TA.next (fun W hO => hO) ?_
      refine TA.take 10 rfl (by kernel_rfl) rfl (PQ.then_ PQ.body) (Wt.yes rfl rfl rfl hk3388) (Val.eqB Tryd.underlying4 rfl rfl) (fun W hO => hO) ?_
      refine TA.take 11 rfl (by kernel_rfl) rfl (PQ.then_ PQ.body) rfl (Val.pickY rfl hk3388 rfl) (fun W hO => hO) ?_
      refine TA.take 12 rfl (by kernel_rfl) rfl (PQ.then_ PQ.body) rfl (Val.move rfl) (fun W hO => hO) ?_
      refine TK.split (p := ((y3389.data.toList == y3391.data.toList) == y3393) = true) h (fun hg3395 h => ?_) (fun hg3395 h => ?_)
      ·
       have hk3396 : ((y3389.data.toList == y3391.data.toList) == y3393) = true := hg3395
       refine TA.take 13 rfl (by kernel_rfl) rfl (PQ.then_ PQ.body) (Wt.yes rfl rfl rfl hk3396) (Val.loadsB 1 (cs := [.int .i64 a0.f0, .slice A1 a0.f1.length c2]) agg27 fsz27 rfl rfl rfl rfl) (fun W hO => hO) ?_
       obtain ⟨y3397, hy3398, h⟩ := bind_no h
       refine TA.eff 14 rfl (by kernel_rfl) rfl (TL.callV (Lin := []) (args := [.agg #[.int .i64 a0.f0, .slice A1 a0.f1.length c2]]) (Wt.yes rfl rfl rfl hk3396) rfl rfl hbd30 rfl rfl (code_Succ.calls (a0 := a0) hr3 hl4 hy3398) rfl ?_)
       rintro _ _ _ _ ⟨rfl, A3399, c3400, rfl, rfl⟩
       refine TA.next (fun W hO => hO.selT (Ls := [Blk b10 [.int .i64 a1.f0, .slice A5 a1.f1.length c6] 27, Blk b9 [.int .i64 a0.f0, .slice A1 a0.f1.length c2] 27]) [1, 2] 3 rfl rfl rfl) ?_
       refine TK.share (fun G3402 e3403 hs3404 hb3405 => ?_)
       have rd3406 : Rd G3402 (Kd.slice 3 (Kd.int .i64)) A3399 y3397 := Rd.row hs3404
       have le3407 : y3397.length ≤ c3400 := Row.le hs3404
       obtain ⟨y3408, hy3409, h⟩ := bind_no h
       refine TA.eff 15 rfl (by kernel_rfl) rfl (TL.callV (Lin := []) (args := [.slice A3399 y3397.length c3400]) (Wt.yes rfl rfl rfl hk3396) rfl rfl hbd36 rfl rfl (graph_Right.calls (a0 := y3397) rd3406 le3407 hy3409) rfl ?_)
       rintro _ _ _ _ ⟨rfl, rfl, rfl⟩
       refine TA.next (fun W hO => (hb3405 _ _ hO).selT (Ls := [Blk b10 [.int .i64 a1.f0, .slice A5 a1.f1.length c6] 27, Blk b9 [.int .i64 a0.f0, .slice A1 a0.f1.length c2] 27]) [1, 2] 3 rfl rfl rfl) ?_
       refine TA.take 16 rfl (by kernel_rfl) rfl (PQ.then_ PQ.body) rfl (Val.pickY rfl hk3396 rfl) (fun W hO => (hb3405 _ _ hO).selT (Ls := [Blk b10 [.int .i64 a1.f0, .slice A5 a1.f1.length c6] 27, Blk b9 [.int .i64 a0.f0, .slice A1 a0.f1.length c2] 27]) [1, 2] 3 rfl rfl rfl) ?_
       refine TA.take 17 rfl (by kernel_rfl) rfl (PQ.then_ PQ.body) rfl (Val.move rfl) (fun W hO => (hb3405 _ _ hO).selT (Ls := [Blk b10 [.int .i64 a1.f0, .slice A5 a1.f1.length c6] 27, Blk b9 [.int .i64 a0.f0, .slice A1 a0.f1.length c2] 27]) [1, 2] 3 rfl rfl rfl) ?_
       refine TK.split (p := y3408 = true) h (fun hg3410 h => ?_) (fun hg3410 h => ?_)
       ·
        have hk3411 : y3408 = true := hg3410
        refine TA.take 18 rfl (by kernel_rfl) rfl (PQ.then_ PQ.body) (Wt.yes rfl rfl rfl hk3411) (Val.move rfl) (fun W hO => (hb3405 _ _ hO).selT (Ls := [Blk b10 [.int .i64 a1.f0, .slice A5 a1.f1.length c6] 27, Blk b9 [.int .i64 a0.f0, .slice A1 a0.f1.length c2] 27]) [1, 2] 3 rfl rfl rfl) ?_
        refine TA.take 19 rfl (by kernel_rfl) rfl (PQ.then_ PQ.body) (Wt.yes rfl rfl rfl hk3411) (Val.fieldAddrB Tryd.underlying27 rfl fsz3 rfl rfl rfl) (fun W hO => (hb3405 _ _ hO).selT (Ls := [Blk b10 [.int .i64 a1.f0, .slice A5 a1.f1.length c6] 27, Blk b9 [.int .i64 a0.f0, .slice A1 a0.f1.length c2] 27]) [1, 2] 3 rfl rfl rfl) ?_
        refine TA.take 20 rfl (by kernel_rfl) rfl (PQ.then_ PQ.body) (Wt.yes rfl rfl rfl hk3411) (Val.loadB 1 agg3 rfl rfl rfl) (fun W hO => (hb3405 _ _ hO).selT (Ls := [Blk b10 [.int .i64 a1.f0, .slice A5 a1.f1.length c6] 27, Blk b9 [.int .i64 a0.f0, .slice A1 a0.f1.length c2] 27]) [1, 2] 3 rfl rfl rfl) ?_
        refine TA.take 21 rfl (by kernel_rfl) rfl (PQ.then_ PQ.body) (Wt.yes rfl rfl rfl hk3411) (Val.cmp rfl rfl run_geq) (fun W hO => (hb3405 _ _ hO).selT (Ls := [Blk b10 [.int .i64 a1.f0, .slice A5 a1.f1.length c6] 27, Blk b9 [.int .i64 a0.f0, .slice A1 a0.f1.length c2] 27]) [1, 2] 3 rfl rfl rfl) ?_
        refine TA.take 22 rfl (by kernel_rfl) rfl (PQ.then_ PQ.body) rfl (Val.pickY rfl hk3411 rfl) (fun W hO => (hb3405 _ _ hO).selT (Ls := [Blk b10 [.int .i64 a1.f0, .slice A5 a1.f1.length c6] 27, Blk b9 [.int .i64 a0.f0, .slice A1 a0.f1.length c2] 27]) [1, 2] 3 rfl rfl rfl) ?_
        refine TA.take 23 rfl (by kernel_rfl) rfl (PQ.then_ PQ.body) rfl (Val.move rfl) (fun W hO => (hb3405 _ _ hO).selT (Ls := [Blk b10 [.int .i64 a1.f0, .slice A5 a1.f1.length c6] 27, Blk b9 [.int .i64 a0.f0, .slice A1 a0.f1.length c2] 27]) [1, 2] 3 rfl rfl rfl) ?_
        refine TK.split (p := a0.f0 ≤ y36) h (fun hg3412 h => ?_) (fun hg3412 h => ?_)
        ·
         have hk3413 : decide (a0.f0 ≤ y36) = true := decide_eq_true hg3412
         refine TA.take 24 rfl (by kernel_rfl) rfl (PQ.then_ PQ.body) (Wt.yes rfl rfl rfl hk3413) (Val.move rfl) (fun W hO => (hb3405 _ _ hO).selT (Ls := [Blk b10 [.int .i64 a1.f0, .slice A5 a1.f1.length c6] 27, Blk b9 [.int .i64 a0.f0, .slice A1 a0.f1.length c2] 27]) [1, 2] 3 rfl rfl rfl) ?_
         refine TA.take 25 rfl (by kernel_rfl) rfl (PQ.then_ PQ.body) (Wt.yes rfl rfl rfl hk3413) (Val.cmp rfl rfl run_leq) (fun W hO => (hb3405 _ _ hO).selT (Ls := [Blk b10 [.int .i64 a1.f0, .slice A5 a1.f1.length c6] 27, Blk b9 [.int .i64 a0.f0, .slice A1 a0.f1.length c2] 27]) [1, 2] 3 rfl rfl rfl) ?_
         refine TA.take 26 rfl (by kernel_rfl) rfl (PQ.then_ PQ.body) rfl (Val.pickY rfl hk3413 rfl) (fun W hO => (hb3405 _ _ hO).selT (Ls := [Blk b10 [.int .i64 a1.f0, .slice A5 a1.f1.length c6] 27, Blk b9 [.int .i64 a0.f0, .slice A1 a0.f1.length c2] 27]) [1, 2] 3 rfl rfl rfl) ?_
         refine TA.take 27 rfl (by kernel_rfl) rfl (PQ.then_ PQ.body) rfl (Val.assign rfl) (fun W hO => (hb3405 _ _ hO).selT (Ls := [Blk b10 [.int .i64 a1.f0, .slice A5 a1.f1.length c6] 27, Blk b9 [.int .i64 a0.f0, .slice A1 a0.f1.length c2] 27]) [1, 2] 3 rfl rfl rfl) ?_
         refine TA.done (by kernel_rfl) ?_
         refine TQ.then_ ?_
         refine TC.ret ?_
         refine TQ.back hb3405 ?_
         obtain rfl := Option.some.inj h
         exact TQ.fin (.inl rfl) rfl Tryd.results6 (.tmp rfl .nil) rfl (FRel.mk (Ls := []) [] 3 (Gd.le.refl _) rfl rfl rfl ⟨rfl, rfl, rfl⟩)
        ·
         have hk3414 : decide (a0.f0 ≤ y36) = false := decide_eq_false hg3412
         refine TA.not 24 rfl (by kernel_rfl) rfl (PQ.then_ PQ.body) (Wt.no rfl rfl rfl hk3414) (fun W hO => (hb3405 _ _ hO).selT (Ls := [Blk b10 [.int .i64 a1.f0, .slice A5 a1.f1.length c6] 27, Blk b9 [.int .i64 a0.f0, .slice A1 a0.f1.length c2] 27]) [1, 2] 3 rfl rfl rfl) ?_
         refine TA.not 25 rfl (by kernel_rfl) rfl (PQ.then_ PQ.body) (Wt.no rfl rfl rfl hk3414) (fun W hO => (hb3405 _ _ hO).selT (Ls := [Blk b10 [.int .i64 a1.f0, .slice A5 a1.f1.length c6] 27, Blk b9 [.int .i64 a0.f0, .slice A1 a0.f1.length c2] 27]) [1, 2] 3 rfl rfl rfl) ?_
         refine TA.take 26 rfl (by kernel_rfl) rfl (PQ.then_ PQ.body) rfl (Val.pickN rfl hk3414 rfl) (fun W hO => (hb3405 _ _ hO).selT (Ls := [Blk b10 [.int .i64 a1.f0, .slice A5 a1.f1.length c6] 27, Blk b9 [.int .i64 a0.f0, .slice A1 a0.f1.length c2] 27]) [1, 2] 3 rfl rfl rfl) ?_
         refine TA.take 27 rfl (by kernel_rfl) rfl (PQ.then_ PQ.body) rfl (Val.assign rfl) (fun W hO => (hb3405 _ _ hO).selT (Ls := [Blk b10 [.int .i64 a1.f0, .slice A5 a1.f1.length c6] 27, Blk b9 [.int .i64 a0.f0, .slice A1 a0.f1.length c2] 27]) [1, 2] 3 rfl rfl rfl) ?_
         refine TA.done (by kernel_rfl) ?_
         refine TQ.then_ ?_
         refine TC.ret ?_
         refine TQ.back hb3405 ?_
         obtain rfl := Option.some.inj h
         exact TQ.fin (.inl rfl) rfl Tryd.results6 (.tmp rfl .nil) rfl (FRel.mk (Ls := []) [] 3 (Gd.le.refl _) rfl rfl rfl ⟨rfl, rfl, rfl⟩)
       ·
        have hk3415 : y3408 = false := (by simpa using hg3410)
        refine TA.not 18 rfl (by kernel_rfl) rfl (PQ.then_ PQ.body) (Wt.no rfl rfl rfl hk3415) (fun W hO => (hb3405 _ _ hO).selT (Ls := [Blk b10 [.int .i64 a1.f0, .slice A5 a1.f1.length c6] 27, Blk b9 [.int .i64 a0.f0, .slice A1 a0.f1.length c2] 27]) [1, 2] 3 rfl rfl rfl) ?_
        refine TA.not 19 rfl (by kernel_rfl) rfl (PQ.then_ PQ.body) (Wt.no rfl rfl rfl hk3415) (fun W hO => (hb3405 _ _ hO).selT (Ls := [Blk b10 [.int .i64 a1.f0, .slice A5 a1.f1.length c6] 27, Blk b9 [.int .i64 a0.f0, .slice A1 a0.f1.length c2] 27]) [1, 2] 3 rfl rfl rfl) ?_
        refine TA.not 20 rfl (by kernel_rfl) rfl (PQ.then_ PQ.body) (Wt.no rfl rfl rfl hk3415) (fun W hO => (hb3405 _ _ hO).selT (Ls := [Blk b10 [.int .i64 a1.f0, .slice A5 a1.f1.length c6] 27, Blk b9 [.int .i64 a0.f0, .slice A1 a0.f1.length c2] 27]) [1, 2] 3 rfl rfl rfl) ?_
        refine TA.not 21 rfl (by kernel_rfl) rfl (PQ.then_ PQ.body) (Wt.no rfl rfl rfl hk3415) (fun W hO => (hb3405 _ _ hO).selT (Ls := [Blk b10 [.int .i64 a1.f0, .slice A5 a1.f1.length c6] 27, Blk b9 [.int .i64 a0.f0, .slice A1 a0.f1.length c2] 27]) [1, 2] 3 rfl rfl rfl) ?_
        refine TA.take 22 rfl (by kernel_rfl) rfl (PQ.then_ PQ.body) rfl (Val.pickN rfl hk3415 rfl) (fun W hO => (hb3405 _ _ hO).selT (Ls := [Blk b10 [.int .i64 a1.f0, .slice A5 a1.f1.length c6] 27, Blk b9 [.int .i64 a0.f0, .slice A1 a0.f1.length c2] 27]) [1, 2] 3 rfl rfl rfl) ?_
        refine TA.take 23 rfl (by kernel_rfl) rfl (PQ.then_ PQ.body) rfl (Val.move rfl) (fun W hO => (hb3405 _ _ hO).selT (Ls := [Blk b10 [.int .i64 a1.f0, .slice A5 a1.f1.length c6] 27, Blk b9 [.int .i64 a0.f0, .slice A1 a0.f1.length c2] 27]) [1, 2] 3 rfl rfl rfl) ?_
        refine TA.not 24 rfl (by kernel_rfl) rfl (PQ.then_ PQ.body) (Wt.no rfl rfl rfl rfl) (fun W hO => (hb3405 _ _ hO).selT (Ls := [Blk b10 [.int .i64 a1.f0, .slice A5 a1.f1.length c6] 27, Blk b9 [.int .i64 a0.f0, .slice A1 a0.f1.length c2] 27]) [1, 2] 3 rfl rfl rfl) ?_
        refine TA.not 25 rfl (by kernel_rfl) rfl (PQ.then_ PQ.body) (Wt.no rfl rfl rfl rfl) (fun W hO => (hb3405 _ _ hO).selT (Ls := [Blk b10 [.int .i64 a1.f0, .slice A5 a1.f1.length c6] 27, Blk b9 [.int .i64 a0.f0, .slice A1 a0.f1.length c2] 27]) [1, 2] 3 rfl rfl rfl) ?_
        refine TA.take 26 rfl (by kernel_rfl) rfl (PQ.then_ PQ.body) rfl (Val.pickN rfl rfl rfl) (fun W hO => (hb3405 _ _ hO).selT (Ls := [Blk b10 [.int .i64 a1.f0, .slice A5 a1.f1.length c6] 27, Blk b9 [.int .i64 a0.f0, .slice A1 a0.f1.length c2] 27]) [1, 2] 3 rfl rfl rfl) ?_
        refine TA.take 27 rfl (by kernel_rfl) rfl (PQ.then_ PQ.body) rfl (Val.assign rfl) (fun W hO => (hb3405 _ _ hO).selT (Ls := [Blk b10 [.int .i64 a1.f0, .slice A5 a1.f1.length c6] 27, Blk b9 [.int .i64 a0.f0, .slice A1 a0.f1.length c2] 27]) [1, 2] 3 rfl rfl rfl) ?_
        refine TA.done (by kernel_rfl) ?_
        refine TQ.then_ ?_
        refine TC.ret ?_
        refine TQ.back hb3405 ?_
        obtain rfl := Option.some.inj h
        exact TQ.fin (.inl rfl) rfl Tryd.results6 (.tmp rfl .nil) rfl (FRel.mk (Ls := []) [] 3 (Gd.le.refl _) rfl rfl rfl ⟨rfl, rfl, rfl⟩)
      ·
       have hk3416 : ((y3389.data.toList == y3391.data.toList) == y3393) = false := (by simpa using hg3395)
       refine TA.not 13 rfl (by kernel_rfl) rfl (PQ.then_ PQ.body) (Wt.no rfl rfl rfl hk3416) (fun W hO => hO) ?_
       refine TA.not 14 rfl (by kernel_rfl) rfl (PQ.then_ PQ.body) (Wt.no rfl rfl rfl hk3416) (fun W hO => hO) ?_
       refine TA.not 15 rfl (by kernel_rfl) rfl (PQ.then_ PQ.body) (Wt.no rfl rfl rfl hk3416) (fun W hO => hO) ?_
       refine TA.take 16 rfl (by kernel_rfl) rfl (PQ.then_ PQ.body) rfl (Val.pickN rfl hk3416 rfl) (fun W hO => hO) ?_
       refine TA.take 17 rfl (by kernel_rfl) rfl (PQ.then_ PQ.body) rfl (Val.move rfl) (fun W hO => hO) ?_
       refine TA.not 18 rfl (by kernel_rfl) rfl (PQ.then_ PQ.body) (Wt.no rfl rfl rfl rfl) (fun W hO => hO) ?_
       refine TA.not 19 rfl (by kernel_rfl) rfl (PQ.then_ PQ.body) (Wt.no rfl rfl rfl rfl) (fun W hO => hO) ?_
       refine TA.not 20 rfl (by kernel_rfl) rfl (PQ.then_ PQ.body) (Wt.no rfl rfl rfl rfl) (fun W hO => hO) ?_
       refine TA.not 21 rfl (by kernel_rfl) rfl (PQ.then_ PQ.body) (Wt.no rfl rfl rfl rfl) (fun W hO => hO) ?_
       refine TA.take 22 rfl (by kernel_rfl) rfl (PQ.then_ PQ.body) rfl (Val.pickN rfl rfl rfl) (fun W hO => hO) ?_
       refine TA.take 23 rfl (by kernel_rfl) rfl (PQ.then_ PQ.body) rfl (Val.move rfl) (fun W hO => hO) ?_
       refine TA.not 24 rfl (by kernel_rfl) rfl (PQ.then_ PQ.body) (Wt.no rfl rfl rfl rfl) (fun W hO => hO) ?_
       refine TA.not 25 rfl (by kernel_rfl) rfl (PQ.then_ PQ.body) (Wt.no rfl rfl rfl rfl) (fun W hO => hO) ?_
       refine TA.take 26 rfl (by kernel_rfl) rfl (PQ.then_ PQ.body) rfl (Val.pickN rfl rfl rfl) (fun W hO => hO) ?_
       refine TA.take 27 rfl (by kernel_rfl) rfl (PQ.then_ PQ.body) rfl (Val.assign rfl) (fun W hO => hO) ?_
       refine TA.done (by kernel_rfl) ?_
       refine TQ.then_ ?_
       refine TC.ret ?_
       obtain rfl := Option.some.inj h
       exact TQ.fin (.inl rfl) rfl Tryd.results6 (.tmp rfl .nil) rfl (FRel.mk (Ls := []) [] 2 (Gd.le.refl _) rfl rfl rfl ⟨rfl, rfl, rfl⟩)
     ·
      have hk3417 : y11 = false := (by simpa using hg3387)
      refine TA.not 2 rfl (by kernel_rfl) rfl (PQ.then_ PQ.body) (Wt.no rfl rfl rfl hk3417) (fun W hO => hO) ?_
      refine TA.not 3 rfl (by kernel_rfl) rfl (PQ.then_ PQ.body) (Wt.no rfl rfl rfl hk3417) (fun W hO => hO) ?_
      refine TA.not 4 rfl (by kernel_rfl) rfl (PQ.then_ PQ.body) (Wt.no rfl rfl rfl hk3417) (fun W hO => hO) ?_
      refine TA.not 5 rfl (by kernel_rfl) rfl (PQ.then_ PQ.body) (Wt.no rfl rfl rfl hk3417) (fun W hO => hO) ?_
      refine TA.not 6 rfl (by kernel_rfl) rfl (PQ.then_ PQ.body) (Wt.no rfl rfl rfl hk3417) (fun W hO => hO) ?_
      refine TA.not 7 rfl (by kernel_rfl) rfl (PQ.then_ PQ.body) (Wt.no rfl rfl rfl hk3417) (fun W hO => hO) ?_
      refine TA.not 8 rfl (by kernel_rfl) rfl (PQ.then_ PQ.body) (Wt.no rfl rfl rfl hk3417) (fun W hO => hO) ?_
      refine TA.not 9 rfl (by kernel_rfl) rfl (PQ.then_ PQ.body) (Wt.no rfl rfl rfl hk3417) (fun W hO => hO) ?_
      refine TA.not 10 rfl (by kernel_rfl) rfl (PQ.then_ PQ.body) (Wt.no rfl rfl rfl hk3417) (fun W hO => hO) ?_
      refine TA.take 11 rfl (by kernel_rfl) rfl (PQ.then_ PQ.body) rfl (Val.pickN rfl hk3417 rfl) (fun W hO => hO) ?_
      refine TA.take 12 rfl (by kernel_rfl) rfl (PQ.then_ PQ.body) rfl (Val.move rfl) (fun W hO => hO) ?_
      refine TA.not 13 rfl (by kernel_rfl) rfl (PQ.then_ PQ.body) (Wt.no rfl rfl rfl rfl) (fun W hO => hO) ?_
      refine TA.not 14 rfl (by kernel_rfl) rfl (PQ.then_ PQ.body) (Wt.no rfl rfl rfl rfl) (fun W hO => hO) ?_
      refine TA.not 15 rfl (by kernel_rfl) rfl (PQ.then_ PQ.body) (Wt.no rfl rfl rfl rfl) (fun W hO => hO) ?_
      refine TA.take 16 rfl (by kernel_rfl) rfl (PQ.then_ PQ.body) rfl (Val.pickN rfl rfl rfl) (fun W hO => hO) ?_
      refine TA.take 17 rfl (by kernel_rfl) rfl (PQ.then_ PQ.body) rfl (Val.move rfl) (fun W hO => hO) ?_
      refine TA.not 18 rfl (by kernel_rfl) rfl (PQ.then_ PQ.body) (Wt.no rfl rfl rfl rfl) (fun W hO => hO) ?_
      refine TA.not 19 rfl (by kernel_rfl) rfl (PQ.then_ PQ.body) (Wt.no rfl rfl rfl rfl) (fun W hO => hO) ?_
      refine TA.not 20 rfl (by kernel_rfl) rfl (PQ.then_ PQ.body) (Wt.no rfl rfl rfl rfl) (fun W hO => hO) ?_
      refine TA.not 21 rfl (by kernel_rfl) rfl (PQ.then_ PQ.body) (Wt.no rfl rfl rfl rfl) (fun W hO => hO) ?_
      refine TA.take 22 rfl (by kernel_rfl) rfl (PQ.then_ PQ.body) rfl (Val.pickN rfl rfl rfl) (fun W hO => hO) ?_
      refine TA.take 23 rfl (by kernel_rfl) rfl (PQ.then_ PQ.body) rfl (Val.move rfl) (fun W hO => hO) ?_
      refine TA.not 24 rfl (by kernel_rfl) rfl (PQ.then_ PQ.body) (Wt.no rfl rfl rfl rfl) (fun W hO => hO) ?_
      refine TA.not 25 rfl (by kernel_rfl) rfl (PQ.then_ PQ.body) (Wt.no rfl rfl rfl rfl) (fun W hO => hO) ?_
      refine TA.take 26 rfl (by kernel_rfl) rfl (PQ.then_ PQ.body) rfl (Val.pickN rfl rfl rfl) (fun W hO => hO) ?_
      refine TA.take 27 rfl (by kernel_rfl) rfl (PQ.then_ PQ.body) rfl (Val.assign rfl) (fun W hO => hO) ?_
      refine TA.done (by kernel_rfl) ?_
      refine TQ.then_ ?_
      refine TC.ret ?_
      obtain rfl := Option.some.inj h
      exact TQ.fin (.inl rfl) rfl Tryd.results6 (.tmp rfl .nil) rfl (FRel.mk (Ls := []) [] 2 (Gd.le.refl _) rfl rfl rfl ⟨rfl, rfl, rfl⟩)
    ·
     refine TC.block ?_
     intro a W hF hO
     have hS : ∃ (x1665 : Int), swagelaw14_CodeTexts.l0 a0 y36 (a0.f1.length + 1) x1665 = some o2479 ∧ Fr 112 a [(3, .pointer (some ⟨b9, 0, none⟩)), (4, .pointer (some ⟨b10, 0, none⟩)), (7, .bool y11), (9, .int .i64 y36), (10, .int .i64 x1665)] ∧ Own G (Blk b10 [.int .i64 a1.f0, .slice A5 a1.f1.length c6] 27 :: Blk b9 [.int .i64 a0.f0, .slice A1 a0.f1.length c2] 27 :: L) W := by
      exact ⟨0, ho2479, hF.sub ⟨rfl, rfl, rfl, rfl, rfl, trivial⟩, hO.selT (Ls := [Blk b10 [.int .i64 a1.f0, .slice A5 a1.f1.length c6] 27, Blk b9 [.int .i64 a0.f0, .slice A1 a0.f1.length c2] 27]) [0, 1] 2 rfl rfl rfl⟩
     clear hF hO ho2479
     refine TC.loop (fun n2480 a W => ∃ (x1665 : Int), swagelaw14_CodeTexts.l0 a0 y36 n2480 x1665 = some o2479 ∧ Fr 112 a [(3, .pointer (some ⟨b9, 0, none⟩)), (4, .pointer (some ⟨b10, 0, none⟩)), (7, .bool y11), (9, .int .i64 y36), (10, .int .i64 x1665)] ∧ Own G (Blk b10 [.int .i64 a1.f0, .slice A5 a1.f1.length c6] 27 :: Blk b9 [.int .i64 a0.f0, .slice A1 a0.f1.length c2] 27 :: L) W) ?_ ?_ hS
     ·
      rintro a W ⟨x1665, h, hF, hO⟩
      exact none_no h
     ·
      clear hS
      rintro n2480 a W ⟨x1665, h, hF, hO⟩
      rw [swagelaw14_CodeTexts.l0] at h
      refine TC.use ?_ hF hO
      clear hF hO
      refine TC.seq ?_
      refine TC.seq ?_
      refine TC.region ?_
      refine TL.cons (TO.val rfl rfl rfl (Val.move rfl) ?_)
      refine TL.cons (TO.val rfl rfl rfl (Val.fieldAddrB Tryd.underlying27 rfl fsz25 rfl rfl rfl) ?_)
      refine TL.cons (TO.val rfl rfl rfl (Val.loadB 1 agg25 rfl rfl rfl) ?_)
      refine TL.cons (TO.val rfl rfl rfl (Val.len Tryd.underlying25 rfl) ?_)
      refine TL.cons (TO.val rfl rfl rfl (Val.cmp rfl rfl run_lss) ?_)
      refine TL.nil ?_
      refine TQ.then_ ?_
      refine TC.cond_p rfl h (fun hc3419 h => ?_) (fun hc3419 h => ?_)
      ·
       refine TC.skip ?_
       refine TQ.then_ ?_
       refine TC.seq ?_
       refine TC.block ?_
       refine TC.seq ?_
       refine TC.region ?_
       refine TL.cons (TO.val rfl rfl rfl (Val.assign rfl) ?_)
       refine TL.nil ?_
       refine TQ.then_ ?_
       obtain ⟨o4843, ho4843, ko4843⟩ := bind_no h
       clear h
       refine TC.tail (fun a W => (.inr ()) = o4843 ∧ Fr 112 a [(3, .pointer (some ⟨b9, 0, none⟩)), (4, .pointer (some ⟨b10, 0, none⟩)), (7, .bool y11), (9, .int .i64 y36), (10, .int .i64 x1665)] ∧ Own G (Blk b10 [.int .i64 a1.f0, .slice A5 a1.f1.length c6] 27 :: Blk b9 [.int .i64 a0.f0, .slice A1 a0.f1.length c2] 27 :: L) W) ?_ ?_
       ·
        rintro a W ⟨rfl, hF, hO⟩
        have h := ko4843
        clear ko4843 ho4843
        refine TQ.use ?_ hF hO
        clear hF hO
        refine TQ.inB ?_
        refine TQ.then_ ?_
        refine TC.region ?_
        refine TL.cons (TO.val rfl rfl rfl (Val.move rfl) ?_)
        refine TL.cons (TO.val rfl rfl rfl (Val.cmp rfl rfl run_add) ?_)
        refine TL.cons (TO.val rfl rfl rfl (Val.assign rfl) ?_)
        refine TL.nil ?_
        exact fun a W hF hO => ⟨IntKind.i64.wrap (x1665 + 1), h, hF.sub ⟨rfl, rfl, rfl, rfl, rfl, trivial⟩, hO.selT (Ls := [Blk b10 [.int .i64 a1.f0, .slice A5 a1.f1.length c6] 27, Blk b9 [.int .i64 a0.f0, .slice A1 a0.f1.length c2] 27]) [0, 1] 2 rfl rfl rfl⟩
       ·
        refine TC.block ?_
        intro a W hF hO
        have hS : ∃ (x4544 : Int), swagelaw14_CodeTexts.l1 a0 y36 x1665 ((at? a0.f1 x1665).elim 0 (fun vy4845 => vy4845.f0.length) + 1) x4544 = some o4843 ∧ Fr 112 a [(3, .pointer (some ⟨b9, 0, none⟩)), (4, .pointer (some ⟨b10, 0, none⟩)), (7, .bool y11), (9, .int .i64 y36), (10, .int .i64 x1665), (11, .int .i64 x4544)] ∧ Own G (Blk b10 [.int .i64 a1.f0, .slice A5 a1.f1.length c6] 27 :: Blk b9 [.int .i64 a0.f0, .slice A1 a0.f1.length c2] 27 :: L) W := by
         exact ⟨0, ho4843, hF.sub ⟨rfl, rfl, rfl, rfl, rfl, rfl, trivial⟩, hO.selT (Ls := [Blk b10 [.int .i64 a1.f0, .slice A5 a1.f1.length c6] 27, Blk b9 [.int .i64 a0.f0, .slice A1 a0.f1.length c2] 27]) [0, 1] 2 rfl rfl rfl⟩
        clear hF hO ho4843
        refine TC.loop (fun n4844 a W => ∃ (x4544 : Int), swagelaw14_CodeTexts.l1 a0 y36 x1665 n4844 x4544 = some o4843 ∧ Fr 112 a [(3, .pointer (some ⟨b9, 0, none⟩)), (4, .pointer (some ⟨b10, 0, none⟩)), (7, .bool y11), (9, .int .i64 y36), (10, .int .i64 x1665), (11, .int .i64 x4544)] ∧ Own G (Blk b10 [.int .i64 a1.f0, .slice A5 a1.f1.length c6] 27 :: Blk b9 [.int .i64 a0.f0, .slice A1 a0.f1.length c2] 27 :: L) W) ?_ ?_ hS
        ·
         rintro a W ⟨x4544, h, hF, hO⟩
         exact none_no h
        ·
         clear hS
         rintro n4844 a W ⟨x4544, h, hF, hO⟩
         rw [swagelaw14_CodeTexts.l1] at h
         refine TC.use ?_ hF hO
         clear hF hO
         refine TC.seq ?_
         refine TC.seq ?_
         refine TC.region ?_
         refine TL.cons (TO.val rfl rfl rfl (Val.move rfl) ?_)
         refine TL.cons (TO.val rfl rfl rfl (Val.fieldAddrB Tryd.underlying27 rfl fsz25 rfl rfl rfl) ?_)
         refine TL.cons (TO.val rfl rfl rfl (Val.loadB 1 agg25 rfl rfl rfl) ?_)
         refine TL.cons (TO.val rfl rfl rfl (Val.move rfl) ?_)
         obtain ⟨y5143, hx5144, h⟩ := bind_no h
         obtain ⟨ad5145, cs5151, hA5146, hi5147, hj5148, hcl5149, hK5150⟩ := Rd.at hr3 hx5144
         obtain ⟨A5152, c5153, rfl, hr5154, hl5155⟩ := k37_openR hK5150
         refine TL.cons (TO.val rfl rfl rfl (Val.indexAddr Tryd.underlying25 fsz37 rfl hA5146 rfl hi5147 hj5148) ?_)
         refine TL.cons (TO.val rfl rfl rfl (Val.fieldAddrE Tryd.underlying37 rfl fsz33 rfl rfl) ?_)
         refine TL.cons (TO.val rfl rfl rfl (Val.loadS agg33 rfl (hcl5149 0 _ rfl)) ?_)
         refine TL.cons (TO.val rfl rfl rfl (Val.len Tryd.underlying33 rfl) ?_)
         refine TL.cons (TO.val rfl rfl rfl (Val.cmp rfl rfl run_lss) ?_)
         refine TL.nil ?_
         refine TQ.then_ ?_
         refine TC.cond_p rfl h (fun hc5157 h => ?_) (fun hc5157 h => ?_)
         ·
          refine TC.skip ?_
          refine TQ.then_ ?_
          refine TC.seq ?_
          refine TC.block ?_
          refine TC.seq ?_
          refine TC.region ?_
          refine TL.cons (TO.val rfl rfl rfl (Val.fieldAddrB Tryd.underlying27 rfl fsz25 rfl rfl rfl) ?_)
          refine TL.cons (TO.val rfl rfl rfl (Val.loadB 1 agg25 rfl rfl rfl) ?_)
          refine TL.cons (TO.val rfl rfl rfl (Val.move rfl) ?_)
          refine TL.cons (TO.val rfl rfl rfl (Val.indexAddr Tryd.underlying25 fsz37 rfl hA5146 rfl hi5147 hj5148) ?_)
          refine TL.cons (TO.val rfl rfl rfl (Val.fieldAddrE Tryd.underlying37 rfl fsz33 rfl rfl) ?_)
          refine TL.cons (TO.val rfl rfl rfl (Val.loadS agg33 rfl (hcl5149 0 _ rfl)) ?_)
          refine TL.cons (TO.val rfl rfl rfl (Val.move rfl) ?_)
          obtain ⟨y5361, hx5362, h⟩ := bind_no h
          obtain ⟨ad5363, cs5369, hA5364, hi5365, hj5366, hcl5367, hK5368⟩ := Rd.at hr5154 hx5362
          obtain ⟨A5370, c5371, rfl, hr5372, hl5373⟩ := k40_openR hK5368
          refine TL.cons (TO.val rfl rfl rfl (Val.indexAddr Tryd.underlying33 fsz40 rfl hA5364 rfl hi5365 hj5366) ?_)
          refine TL.cons (TO.val rfl rfl rfl (Val.loadsS (cs := [.int .i64 y5361.f0, .int .i64 y5361.f1, .int .i64 y5361.f2, .int .i64 y5361.f3, .int .i64 y5361.f4, .slice A5370 y5361.f5.length c5371]) agg40 fsz40 rfl rfl (Cl.sub (off := 0) (n := 6) hcl5367 rfl)) ?_)
          obtain ⟨y5374, hy5375, h⟩ := bind_no h
          refine TL.cons (TL.callV (Lin := []) (args := [.agg #[.int .i64 y5361.f0, .int .i64 y5361.f1, .int .i64 y5361.f2, .int .i64 y5361.f3, .int .i64 y5361.f4, .slice A5370 y5361.f5.length c5371]]) rfl rfl rfl hbd19 rfl rfl (code_Uses.calls (a0 := y5361) hr5372 hl5373 hy5375) rfl ?_)
          rintro _ _ _ _ ⟨rfl, A5376, c5377, rfl, rfl⟩
          refine TL.cons (TO.val rfl rfl rfl (Val.assign rfl) ?_)
          refine TL.nil ?_
          refine TQ.then_ ?_
          refine TC.seq ?_
          refine TC.region ?_
          refine TL.cons (TO.val rfl rfl rfl (Val.assign rfl) ?_)
          refine TL.nil ?_
          refine TQ.then_ ?_
          obtain ⟨o5627, ho5627, ko5627⟩ := bind_no h
          clear h
          refine TC.tail (fun a W => (.inr ()) = o5627 ∧ Fr 112 a [(3, .pointer (some ⟨b9, 0, none⟩)), (4, .pointer (some ⟨b10, 0, none⟩)), (7, .bool y11), (9, .int .i64 y36), (10, .int .i64 x1665), (11, .int .i64 x4544)] ∧ Own G (Blk b10 [.int .i64 a1.f0, .slice A5 a1.f1.length c6] 27 :: Blk b9 [.int .i64 a0.f0, .slice A1 a0.f1.length c2] 27 :: L) W) ?_ ?_
          ·
           rintro a W ⟨rfl, hF, hO⟩
           have h := ko5627
           clear ko5627 ho5627
           refine TQ.use ?_ hF hO
           clear hF hO
           refine TQ.inB ?_
           refine TQ.then_ ?_
           refine TC.region ?_
           refine TL.cons (TO.val rfl rfl rfl (Val.move rfl) ?_)
           refine TL.cons (TO.val rfl rfl rfl (Val.cmp rfl rfl run_add) ?_)
           refine TL.cons (TO.val rfl rfl rfl (Val.assign rfl) ?_)
           refine TL.nil ?_
           exact fun a W hF hO => ⟨IntKind.i64.wrap (x4544 + 1), h, hF.sub ⟨rfl, rfl, rfl, rfl, rfl, rfl, trivial⟩, hO.selT (Ls := [Blk b10 [.int .i64 a1.f0, .slice A5 a1.f1.length c6] 27, Blk b9 [.int .i64 a0.f0, .slice A1 a0.f1.length c2] 27]) [0, 1] 2 rfl rfl rfl⟩
          ·
           refine TC.block ?_
           intro a W hF hO
           have hS : ∃ (x5544 : Int), swagelaw14_CodeTexts.l2 y36 y5374 (y5374.length + 1) x5544 = some o5627 ∧ Fr 112 a [(3, .pointer (some ⟨b9, 0, none⟩)), (4, .pointer (some ⟨b10, 0, none⟩)), (7, .bool y11), (9, .int .i64 y36), (10, .int .i64 x1665), (11, .int .i64 x4544), (12, .slice A5376 y5374.length c5377), (13, .int .i64 x5544)] ∧ Own G (Blk b10 [.int .i64 a1.f0, .slice A5 a1.f1.length c6] 27 :: Blk b9 [.int .i64 a0.f0, .slice A1 a0.f1.length c2] 27 :: Row (Kd.int .i64) 3 (.slice A5376 y5374.length c5377) y5374 :: L) W := by
            exact ⟨0, ho5627, hF.sub ⟨rfl, rfl, rfl, rfl, rfl, rfl, rfl, rfl, trivial⟩, hO.selT (Ls := [Blk b10 [.int .i64 a1.f0, .slice A5 a1.f1.length c6] 27, Blk b9 [.int .i64 a0.f0, .slice A1 a0.f1.length c2] 27, Row (Kd.int .i64) 3 (.slice A5376 y5374.length c5377) y5374]) [1, 2, 0] 3 rfl rfl rfl⟩
           clear hF hO ho5627
           refine TC.loop (fun n5628 a W => ∃ (x5544 : Int), swagelaw14_CodeTexts.l2 y36 y5374 n5628 x5544 = some o5627 ∧ Fr 112 a [(3, .pointer (some ⟨b9, 0, none⟩)), (4, .pointer (some ⟨b10, 0, none⟩)), (7, .bool y11), (9, .int .i64 y36), (10, .int .i64 x1665), (11, .int .i64 x4544), (12, .slice A5376 y5374.length c5377), (13, .int .i64 x5544)] ∧ Own G (Blk b10 [.int .i64 a1.f0, .slice A5 a1.f1.length c6] 27 :: Blk b9 [.int .i64 a0.f0, .slice A1 a0.f1.length c2] 27 :: Row (Kd.int .i64) 3 (.slice A5376 y5374.length c5377) y5374 :: L) W) ?_ ?_ hS
           ·
            rintro a W ⟨x5544, h, hF, hO⟩
            exact none_no h
           ·
            clear hS
            rintro n5628 a W ⟨x5544, h, hF, hO⟩
            rw [swagelaw14_CodeTexts.l2] at h
            refine TC.use ?_ hF hO
            clear hF hO
            refine TC.seq ?_
            refine TC.seq ?_
            refine TC.region ?_
            refine TL.cons (TO.val rfl rfl rfl (Val.move rfl) ?_)
            refine TL.cons (TO.val rfl rfl rfl (Val.move rfl) ?_)
            refine TL.cons (TO.val rfl rfl rfl (Val.len Tryd.underlying38 rfl) ?_)
            refine TL.cons (TO.val rfl rfl rfl (Val.cmp rfl rfl run_lss) ?_)
            refine TL.nil ?_
            refine TQ.then_ ?_
            refine TC.cond_p rfl h (fun hc5712 h => ?_) (fun hc5712 h => ?_)
            ·
             refine TC.skip ?_
             refine TQ.then_ ?_
             refine TC.seq ?_
             refine TC.block ?_
             refine TC.seq ?_
             obtain ⟨j5772, hj5772, h⟩ := jn_no h
             refine TC.tail (fun a W => ∃ (x5771 : Bool), j5772 x5771 = some o5627 ∧ Fr 112 a [(3, .pointer (some ⟨b9, 0, none⟩)), (4, .pointer (some ⟨b10, 0, none⟩)), (7, .bool y11), (9, .int .i64 y36), (10, .int .i64 x1665), (11, .int .i64 x4544), (12, .slice A5376 y5374.length c5377), (13, .int .i64 x5544), (84, .bool x5771)] ∧ Own G (Blk b10 [.int .i64 a1.f0, .slice A5 a1.f1.length c6] 27 :: Blk b9 [.int .i64 a0.f0, .slice A1 a0.f1.length c2] 27 :: Row (Kd.int .i64) 3 (.slice A5376 y5374.length c5377) y5374 :: L) W) ?_ ?_
             ·
              rintro a W ⟨x5771, h, hF, hO⟩
              rw [hj5772] at h
              refine TQ.use ?_ hF hO
              clear hF hO
              refine TQ.then_ ?_
              refine TC.cond_b rfl h (fun hc5774 h => ?_) (fun hc5774 h => ?_)
              ·
               refine TC.seq ?_
               refine TC.region ?_
               refine TL.cons (TO.val rfl rfl rfl (Val.assign rfl) ?_)
               refine TL.nil ?_
               refine TQ.then_ ?_
               refine TC.ret ?_
               refine TQ.inBR ?_
               refine TQ.thenR ?_
               refine TQ.thenR ?_
               refine TQ.inBR ?_
               refine TQ.thenR ?_
               refine TQ.inBR ?_
               refine TQ.thenR ?_
               refine TQ.thenR ?_
               refine TQ.inBR ?_
               refine TQ.thenR ?_
               refine TQ.inBR ?_
               refine TQ.thenR ?_
               refine TQ.thenR ?_
               refine TQ.inBR ?_
               refine TQ.thenR ?_
               refine TQ.thenR ?_
               obtain rfl := Option.some.inj h
               have h := ko5627
               obtain rfl := Option.some.inj h
               have h := ko4843
               obtain rfl := Option.some.inj h
               have h := ko2479
               obtain rfl := Option.some.inj h
               exact TQ.fin (.inl rfl) rfl Tryd.results6 (.tmp rfl .nil) rfl (FRel.mk (Ls := []) [] 3 (Gd.le.refl _) rfl rfl rfl ⟨rfl, rfl, rfl⟩)
              ·
               refine TC.skip ?_
               refine TQ.inB ?_
               refine TQ.then_ ?_
               refine TC.region ?_
               refine TL.cons (TO.val rfl rfl rfl (Val.move rfl) ?_)
               refine TL.cons (TO.val rfl rfl rfl (Val.cmp rfl rfl run_add) ?_)
               refine TL.cons (TO.val rfl rfl rfl (Val.assign rfl) ?_)
               refine TL.nil ?_
               exact fun a W hF hO => ⟨IntKind.i64.wrap (x5544 + 1), h, hF.sub ⟨rfl, rfl, rfl, rfl, rfl, rfl, rfl, rfl, trivial⟩, hO.selT (Ls := [Blk b10 [.int .i64 a1.f0, .slice A5 a1.f1.length c6] 27, Blk b9 [.int .i64 a0.f0, .slice A1 a0.f1.length c2] 27, Row (Kd.int .i64) 3 (.slice A5376 y5374.length c5377) y5374]) [0, 1, 2] 3 rfl rfl rfl⟩
             ·
              refine TC.region ?_
              refine TL.cons (TO.val rfl rfl rfl (Val.move rfl) ?_)
              refine TL.cons (TO.val rfl rfl rfl (Val.move rfl) ?_)
              refine TK.sel (Ls := [Row (Kd.int .i64) 3 (.slice A5376 y5374.length c5377) y5374, Blk b10 [.int .i64 a1.f0, .slice A5 a1.f1.length c6] 27, Blk b9 [.int .i64 a0.f0, .slice A1 a0.f1.length c2] 27]) [2, 0, 1] 3 rfl rfl rfl ?_
              refine TK.share (fun G5775 e5776 hs5777 hb5778 => ?_)
              have rd5779 : Rd G5775 (Kd.int .i64) A5376 y5374 := Rd.row hs5777
              have le5780 : y5374.length ≤ c5377 := Row.le hs5777
              obtain ⟨y5781, hx5782, h⟩ := bind_no h
              obtain ⟨ad5783, cs5789, hA5784, hi5785, hj5786, hcl5787, hK5788⟩ := Rd.at rd5779 hx5782
              obtain rfl := RdK.int hK5788
              refine TL.cons (TO.val rfl rfl rfl (Val.indexAddr Tryd.underlying38 fsz3 rfl hA5784 rfl hi5785 hj5786) ?_)
              refine TL.cons (TO.val rfl rfl rfl (Val.loadS agg3 rfl (hcl5787 0 _ rfl)) ?_)
              refine TL.cons (TO.val rfl rfl rfl (Val.cmp rfl rfl run_lss) ?_)
              refine TL.cons (TO.val rfl rfl rfl (Val.move rfl) ?_)
              refine TK.split (p := y5781 < 1) h (fun hg5790 h => ?_) (fun hg5790 h => ?_)
              ·
               have hk5791 : decide (y5781 < 1) = true := decide_eq_true hg5790
               refine TL.cons (TL.not (Wt.no rfl rfl rfl hk5791) rfl ?_)
               refine TL.cons (TL.not (Wt.no rfl rfl rfl hk5791) rfl ?_)
               refine TL.cons (TL.not (Wt.no rfl rfl rfl hk5791) rfl ?_)
               refine TL.cons (TL.not (Wt.no rfl rfl rfl hk5791) rfl ?_)
               refine TL.cons (TL.not (Wt.no rfl rfl rfl hk5791) rfl ?_)
               refine TL.cons (TL.not (Wt.no rfl rfl rfl hk5791) rfl ?_)
               refine TL.cons (TO.val rfl rfl rfl (Val.pickY rfl hk5791 rfl) ?_)
               refine TL.nil ?_
               refine TQ.back hb5778 ?_
               exact fun a W hF hO => ⟨true, h, hF.sub ⟨rfl, rfl, rfl, rfl, rfl, rfl, rfl, rfl, rfl, trivial⟩, hO.selT (Ls := [Blk b10 [.int .i64 a1.f0, .slice A5 a1.f1.length c6] 27, Blk b9 [.int .i64 a0.f0, .slice A1 a0.f1.length c2] 27, Row (Kd.int .i64) 3 (.slice A5376 y5374.length c5377) y5374]) [1, 2, 0] 3 rfl rfl rfl⟩
              ·
               have hk5792 : decide (y5781 < 1) = false := decide_eq_false hg5790
               refine TL.cons (TO.val (Wt.yes rfl rfl rfl hk5792) rfl rfl (Val.move rfl) ?_)
               refine TL.cons (TO.val (Wt.yes rfl rfl rfl hk5792) rfl rfl (Val.move rfl) ?_)
               refine TL.cons (TO.val (Wt.yes rfl rfl rfl hk5792) rfl rfl (Val.indexAddr Tryd.underlying38 fsz3 rfl hA5784 rfl hi5785 hj5786) ?_)
               refine TL.cons (TO.val (Wt.yes rfl rfl rfl hk5792) rfl rfl (Val.loadS agg3 rfl (hcl5787 0 _ rfl)) ?_)
               refine TL.cons (TO.val (Wt.yes rfl rfl rfl hk5792) rfl rfl (Val.move rfl) ?_)
               refine TL.cons (TO.val (Wt.yes rfl rfl rfl hk5792) rfl rfl (Val.cmp rfl rfl run_gtr) ?_)
               refine TL.cons (TO.val rfl rfl rfl (Val.pickN rfl hk5792 rfl) ?_)
               refine TL.nil ?_
               refine TQ.back hb5778 ?_
               exact fun a W hF hO => ⟨decide (y36 < y5781), h, hF.sub ⟨rfl, rfl, rfl, rfl, rfl, rfl, rfl, rfl, rfl, trivial⟩, hO.selT (Ls := [Blk b10 [.int .i64 a1.f0, .slice A5 a1.f1.length c6] 27, Blk b9 [.int .i64 a0.f0, .slice A1 a0.f1.length c2] 27, Row (Kd.int .i64) 3 (.slice A5376 y5374.length c5377) y5374]) [1, 2, 0] 3 rfl rfl rfl⟩
            ·
             refine TC.exit ?_
             refine TQ.thenX ?_
             refine TQ.thenX ?_
             refine TQ.inBX ?_
             exact fun a W hF hO => ⟨Option.some.inj h, hF.sub ⟨rfl, rfl, rfl, rfl, rfl, rfl, trivial⟩, hO.selT (Ls := [Blk b10 [.int .i64 a1.f0, .slice A5 a1.f1.length c6] 27, Blk b9 [.int .i64 a0.f0, .slice A1 a0.f1.length c2] 27]) [0, 1] 3 rfl rfl rfl⟩
         ·
          refine TC.exit ?_
          refine TQ.thenX ?_
          refine TQ.thenX ?_
          refine TQ.inBX ?_
          exact fun a W hF hO => ⟨Option.some.inj h, hF.sub ⟨rfl, rfl, rfl, rfl, rfl, trivial⟩, hO.selT (Ls := [Blk b10 [.int .i64 a1.f0, .slice A5 a1.f1.length c6] 27, Blk b9 [.int .i64 a0.f0, .slice A1 a0.f1.length c2] 27]) [0, 1] 2 rfl rfl rfl⟩
      ·
       refine TC.exit ?_
       refine TQ.thenX ?_
       refine TQ.thenX ?_
       refine TQ.inBX ?_
       exact fun a W hF hO => ⟨Option.some.inj h, hF.sub ⟨rfl, rfl, rfl, rfl, trivial⟩, hO.selT (Ls := [Blk b10 [.int .i64 a1.f0, .slice A5 a1.f1.length c6] 27, Blk b9 [.int .i64 a0.f0, .slice A1 a0.f1.length c2] 27]) [0, 1] 2 rfl rfl rfl⟩
  ·
   refine TC.region ?_
   refine TL.cons (TO.val rfl rfl rfl (Val.move rfl) ?_)
   refine TL.cons (TO.val rfl rfl rfl (Val.not_ rfl) ?_)
   refine TL.cons (TO.val rfl rfl rfl (Val.move rfl) ?_)
   refine TK.split (p := (!x20) = true) h (fun hg5793 h => ?_) (fun hg5793 h => ?_)
   ·
    have hk5794 : (!x20) = true := hg5793
    refine TL.cons (TL.not (Wt.no rfl rfl rfl hk5794) rfl ?_)
    refine TL.cons (TL.not (Wt.no rfl rfl rfl hk5794) rfl ?_)
    refine TL.cons (TL.not (Wt.no rfl rfl rfl hk5794) rfl ?_)
    refine TL.cons (TL.not (Wt.no rfl rfl rfl hk5794) rfl ?_)
    refine TL.cons (TO.val rfl rfl rfl (Val.pickY rfl hk5794 rfl) ?_)
    refine TL.cons (TO.val rfl rfl rfl (Val.move rfl) ?_)
    refine TL.cons (TL.not (Wt.no rfl rfl rfl rfl) rfl ?_)
    refine TL.cons (TL.not (Wt.no rfl rfl rfl rfl) rfl ?_)
    refine TL.cons (TL.not (Wt.no rfl rfl rfl rfl) rfl ?_)
    refine TL.cons (TL.not (Wt.no rfl rfl rfl rfl) rfl ?_)
    refine TL.cons (TO.val rfl rfl rfl (Val.pickY rfl rfl rfl) ?_)
    refine TL.nil ?_
    exact fun a W hF hO => ⟨true, h, hF.sub ⟨rfl, rfl, rfl, rfl, trivial⟩, hO.selT (Ls := [Blk b10 [.int .i64 a1.f0, .slice A5 a1.f1.length c6] 27, Blk b9 [.int .i64 a0.f0, .slice A1 a0.f1.length c2] 27]) [0, 1] 2 rfl rfl rfl⟩
   ·
    have hk5795 : (!x20) = false := (by simpa using hg5793)
    refine TL.cons (TO.val (Wt.yes rfl rfl rfl hk5795) rfl rfl (Val.loadsB 1 (cs := [.int .i64 a0.f0, .slice A1 a0.f1.length c2]) agg27 fsz27 rfl rfl rfl rfl) ?_)
    refine TL.cons (TO.val (Wt.yes rfl rfl rfl hk5795) rfl rfl (Val.move rfl) ?_)
    obtain ⟨y5796, hy5797, h⟩ := bind_no h
    refine TL.cons (TL.callV (Lin := []) (args := [.agg #[.int .i64 a0.f0, .slice A1 a0.f1.length c2], .int .i64 a2]) (Wt.yes rfl rfl rfl hk5795) rfl rfl hbd16 rfl rfl (code_Right.calls (a0 := a0) (a1 := a2) hr3 hl4 hy5797) rfl ?_)
    rintro _ _ _ _ ⟨rfl, rfl, rfl⟩
    refine TL.cons (TO.val (Wt.yes rfl rfl rfl hk5795) rfl rfl (Val.not_ rfl) ?_)
    refine TL.cons (TO.val rfl rfl rfl (Val.pickN rfl hk5795 rfl) ?_)
    refine TL.cons (TO.val rfl rfl rfl (Val.move rfl) ?_)
    refine TK.split (p := (!y5796) = true) h (fun hg5798 h => ?_) (fun hg5798 h => ?_)
    ·
     have hk5799 : (!y5796) = true := hg5798
     refine TL.cons (TL.not (Wt.no rfl rfl rfl hk5799) rfl ?_)
     refine TL.cons (TL.not (Wt.no rfl rfl rfl hk5799) rfl ?_)
     refine TL.cons (TL.not (Wt.no rfl rfl rfl hk5799) rfl ?_)
     refine TL.cons (TL.not (Wt.no rfl rfl rfl hk5799) rfl ?_)
     refine TL.cons (TO.val rfl rfl rfl (Val.pickY rfl hk5799 rfl) ?_)
     refine TL.nil ?_
     exact fun a W hF hO => ⟨true, h, hF.sub ⟨rfl, rfl, rfl, rfl, trivial⟩, hO.selT (Ls := [Blk b10 [.int .i64 a1.f0, .slice A5 a1.f1.length c6] 27, Blk b9 [.int .i64 a0.f0, .slice A1 a0.f1.length c2] 27]) [0, 1] 2 rfl rfl rfl⟩
    ·
     have hk5800 : (!y5796) = false := (by simpa using hg5798)
     refine TL.cons (TO.val (Wt.yes rfl rfl rfl hk5800) rfl rfl (Val.loadsB 0 (cs := [.int .i64 a1.f0, .slice A5 a1.f1.length c6]) agg27 fsz27 rfl rfl rfl rfl) ?_)
     refine TL.cons (TO.val (Wt.yes rfl rfl rfl hk5800) rfl rfl (Val.move rfl) ?_)
     obtain ⟨y5801, hy5802, h⟩ := bind_no h
     refine TL.cons (TL.callV (Lin := []) (args := [.agg #[.int .i64 a1.f0, .slice A5 a1.f1.length c6], .int .i64 a2]) (Wt.yes rfl rfl rfl hk5800) rfl rfl hbd16 rfl rfl (code_Right.calls (a0 := a1) (a1 := a2) hr7 hl8 hy5802) rfl ?_)
     rintro _ _ _ _ ⟨rfl, rfl, rfl⟩
     refine TL.cons (TO.val (Wt.yes rfl rfl rfl hk5800) rfl rfl (Val.not_ rfl) ?_)
     refine TL.cons (TO.val rfl rfl rfl (Val.pickN rfl hk5800 rfl) ?_)
     refine TL.nil ?_
     exact fun a W hF hO => ⟨(!y5801), h, hF.sub ⟨rfl, rfl, rfl, rfl, trivial⟩, hO.selT (Ls := [Blk b10 [.int .i64 a1.f0, .slice A5 a1.f1.length c6] 27, Blk b9 [.int .i64 a0.f0, .slice A1 a0.f1.length c2] 27]) [0, 1] 2 rfl rfl rfl⟩
 ·
  refine TC.region ?_
  refine TL.cons (TO.val rfl rfl rfl (Val.loadsB 1 (cs := [.int .i64 a0.f0, .slice A1 a0.f1.length c2]) agg27 fsz27 rfl rfl rfl rfl) ?_)
  obtain ⟨y5803, hy5804, h⟩ := bind_no h
  refine TL.cons (TL.callV (Lin := []) (args := [.agg #[.int .i64 a0.f0, .slice A1 a0.f1.length c2]]) rfl rfl rfl hbd8 rfl rfl (swagelaw14_Few.calls (a0 := a0) hr3 hl4 hy5804) rfl ?_)
  rintro _ _ _ _ ⟨rfl, rfl, rfl⟩
  refine TL.cons (TO.val rfl rfl rfl (Val.move rfl) ?_)
  refine TK.split (p := y5803 = true) h (fun hg5805 h => ?_) (fun hg5805 h => ?_)
  ·
   have hk5806 : y5803 = true := hg5805
   refine TL.cons (TO.val (Wt.yes rfl rfl rfl hk5806) rfl rfl (Val.loadsB 0 (cs := [.int .i64 a1.f0, .slice A5 a1.f1.length c6]) agg27 fsz27 rfl rfl rfl rfl) ?_)
   obtain ⟨y5807, hy5808, h⟩ := bind_no h
   refine TL.cons (TL.callV (Lin := []) (args := [.agg #[.int .i64 a1.f0, .slice A5 a1.f1.length c6]]) (Wt.yes rfl rfl rfl hk5806) rfl rfl hbd8 rfl rfl (swagelaw14_Few.calls (a0 := a1) hr7 hl8 hy5808) rfl ?_)
   rintro _ _ _ _ ⟨rfl, rfl, rfl⟩
   refine TL.cons (TO.val rfl rfl rfl (Val.pickY rfl hk5806 rfl) ?_)
   refine TL.cons (TO.val rfl rfl rfl (Val.assign rfl) ?_)
   refine TL.nil ?_
   exact fun a W hF hO => ⟨y5807, h, hF.sub ⟨rfl, rfl, rfl, rfl, rfl, trivial⟩, hO.selT (Ls := [Blk b10 [.int .i64 a1.f0, .slice A5 a1.f1.length c6] 27, Blk b9 [.int .i64 a0.f0, .slice A1 a0.f1.length c2] 27]) [0, 1] 2 rfl rfl rfl⟩
  ·
   have hk5809 : y5803 = false := (by simpa using hg5805)
   refine TL.cons (TL.not (Wt.no rfl rfl rfl hk5809) rfl ?_)
   refine TL.cons (TL.not (Wt.no rfl rfl rfl hk5809) rfl ?_)
   refine TL.cons (TO.val rfl rfl rfl (Val.pickN rfl hk5809 rfl) ?_)
   refine TL.cons (TO.val rfl rfl rfl (Val.assign rfl) ?_)
   refine TL.nil ?_
   exact fun a W hF hO => ⟨false, h, hF.sub ⟨rfl, rfl, rfl, rfl, rfl, trivial⟩, hO.selT (Ls := [Blk b10 [.int .i64 a1.f0, .slice A5 a1.f1.length c6] 27, Blk b9 [.int .i64 a0.f0, .slice A1 a0.f1.length c2] 27]) [0, 1] 2 rfl rfl rfl⟩
end Go.Proofs.YtmacdhkfgoahcaaDoor.Sy
set_option linter.unusedVariables false
set_option linter.unusedSimpArgs false
namespace Go.Proofs.YtmacdhkfgoahcaaDoor.Sy
open Go Go.RowKit Go.Proofs.YtmacdhkfgoahcaaDoorW.PrintWords Go.Proofs.YtmacdhkfgoahcaaDoor.SyO
/-! #### Registers -/
theorem uses_f {o : S40} (h : Ro o) (hl : o.f5.length ≤ 20) : ∃ u, code_Uses.f o = some u ∧ (∀ a ∈ u, Rg a) ∧ u.length ≤ 30 := by
  unfold code_Uses.f
  rw [shape_f]
  unfold Ro at h
  have hl2 : o.f5.length ≤ 17592186044416 := by omega
  rcases h with h | h | h | h | h | h | h | h | h
  · exact ⟨[], by simp [jn, h.1], by simp, by simp⟩
  · exact ⟨[o.f2, o.f3], by simp [jn, h.1], by intro a ha; simp at ha; rcases ha with rfl | rfl; exact h.2.2.1; exact h.2.2.2.1, by simp⟩
  · exact ⟨[o.f2], by simp [jn, h.1], by intro a ha; simp at ha; subst ha; exact h.2.2.1, by simp⟩
  · exact ⟨[o.f2], by simp [jn, h.1], by intro a ha; simp at ha; subst ha; exact h.2.2.1, by simp⟩
  · exact ⟨[o.f2, o.f3], by simp [jn, h.1], by intro a ha; simp at ha; rcases ha with rfl | rfl; exact h.2.2.1; exact h.2.2.2.1, by simp⟩
  · exact ⟨[], by simp [jn, h.1], by simp, by simp⟩
  · exact ⟨o.f5, by simp [jn, h.1, hl2], h.2.2.2.2, by omega⟩
  · exact ⟨[], by simp [jn, h.1], by simp, by simp⟩
  · exact ⟨[o.f2], by simp [jn, h.1], by intro a ha; simp at ha; subst ha; exact h.2.2.1, by simp⟩
theorem sets_f {o : S40} (h : Ro o) : ∃ s, code_Sets.f o = some s ∧ 0 ≤ s ∧ s ≤ 4096 := by
  unfold code_Sets.f
  rw [shape_f]
  unfold Ro at h
  rcases h with h | h | h | h | h | h | h | h | h
  · exact ⟨o.f1, by simp [h.1], by have := h.2.1.1; omega, h.2.1.2⟩
  · exact ⟨o.f1, by simp [h.1], by have := h.2.1.1; omega, h.2.1.2⟩
  · exact ⟨o.f1, by simp [h.1], by have := h.2.1.1; omega, h.2.1.2⟩
  · exact ⟨o.f1, by simp [h.1], by have := h.2.1.1; omega, h.2.1.2⟩
  · exact ⟨0, by simp [h.1], by omega, by omega⟩
  · exact ⟨o.f1, by simp [h.1], by have := h.2.1.1; omega, h.2.1.2⟩
  · exact ⟨o.f1, by simp [h.1], by have := h.2.1.1; omega, h.2.1.2⟩
  · exact ⟨o.f1, by simp [h.1], by have := h.2.1.1; omega, h.2.1.2⟩
  · exact ⟨0, by simp [h.1], by omega, by omega⟩
theorem tuses_f {t : S35} {n : Nat} (h : Rt t n) : ∃ u, code_TermUses.f t = some u ∧ (∀ a ∈ u, Rg a) ∧ u.length ≤ 30 := by
  unfold code_TermUses.f
  unfold Rt at h
  rcases h with h | h | h | h
  · exact ⟨[], by simp [jn, h.1], by simp, by simp⟩
  · exact ⟨[t.f1], by simp [jn, h.1], by intro a ha; simp at ha; subst ha; exact h.2.2.2.2.2, by simp⟩
  · exact ⟨[t.f1], by simp [jn, h.1], by intro a ha; simp at ha; subst ha; exact h.2.1, by simp⟩
  · exact ⟨[], by simp [jn, h.1], by simp, by simp⟩
theorem regs_l4 {u : List Int} (hl : u.length ≤ 1000) (hu : ∀ a ∈ u, Rg a) : ∀ (ys : List Int) (n i : Nat) (x : Int), u.drop i = ys → ys.length < n → 0 ≤ x → x ≤ 4096 →
    ∃ z, code_Regs.l4 u n i x = some z ∧ x ≤ z ∧ z ≤ 4096 ∧ ∀ a ∈ ys, a ≤ z := by
  intro ys
  induction ys with
  | nil =>
    intro n i x hdr hn h0 h1
    obtain ⟨n, rfl⟩ : ∃ m, n = m + 1 := ⟨n - 1, by simp at hn; omega⟩
    rw [code_Regs.l4, if_neg (drop_nil hdr)]
    exact ⟨x, rfl, by omega, h1, fun a ha => by cases ha⟩
  | cons y ys ih =>
    intro n i x hdr hn h0 h1
    obtain ⟨n, rfl⟩ : ∃ m, n = m + 1 := ⟨n - 1, by simp at hn; omega⟩
    obtain ⟨g1, g2, g3, g4⟩ := drop_cons hdr
    have hy := hu y g4
    rw [code_Regs.l4, if_pos g1, g2]
    simp only [Option.bind_some]
    rw [wsucc (by omega)]
    obtain ⟨z, z1, z2, z3, z4⟩ := ih n (i + 1) (if x < y then y else x) g3 (by simp at hn; omega) (by split <;> omega) (by have := hy.2; split <;> omega)
    refine ⟨z, z1, by split at z2 <;> omega, z3, fun a ha => ?_⟩
    rcases List.mem_cons.1 ha with rfl | ha
    · split at z2 <;> omega
    · exact z4 a ha
theorem regs_l2 {u : List Int} (hl : u.length ≤ 1000) (hu : ∀ a ∈ u, Rg a) : ∀ (ys : List Int) (n i : Nat) (x : Int), u.drop i = ys → ys.length < n → 0 ≤ x → x ≤ 4096 →
    ∃ z, code_Regs.l2 u n i x = some z ∧ x ≤ z ∧ z ≤ 4096 := by
  intro ys
  induction ys with
  | nil =>
    intro n i x hdr hn h0 h1
    obtain ⟨n, rfl⟩ : ∃ m, n = m + 1 := ⟨n - 1, by simp at hn; omega⟩
    rw [code_Regs.l2, if_neg (drop_nil hdr)]
    exact ⟨x, rfl, by omega, h1⟩
  | cons y ys ih =>
    intro n i x hdr hn h0 h1
    obtain ⟨n, rfl⟩ : ∃ m, n = m + 1 := ⟨n - 1, by simp at hn; omega⟩
    obtain ⟨g1, g2, g3, g4⟩ := drop_cons hdr
    have hy := hu y g4
    rw [code_Regs.l2, if_pos g1, g2]
    simp only [Option.bind_some]
    rw [wsucc (by omega)]
    obtain ⟨z, z1, z2, z3⟩ := ih n (i + 1) (if x < y then y else x) g3 (by simp at hn; omega) (by split <;> omega) (by have := hy.2; split <;> omega)
    exact ⟨z, z1, by split at z2 <;> omega, z3⟩
theorem regs_l3 {y : S37} (hl : y.f0.length ≤ 250) (ho : ∀ o ∈ y.f0, Ro o ∧ o.f5.length ≤ 20) : ∀ (ys : List S40) (n i : Nat) (x : Int), y.f0.drop i = ys → ys.length < n → 0 ≤ x → x ≤ 4096 →
    ∃ z, code_Regs.l3 y n i x = some z ∧ x ≤ z ∧ z ≤ 4096 ∧ ∀ o ∈ ys, ∀ u, code_Uses.f o = some u → ∀ a ∈ u, a ≤ z := by
  intro ys
  induction ys with
  | nil =>
    intro n i x hdr hn h0 h1
    obtain ⟨n, rfl⟩ : ∃ m, n = m + 1 := ⟨n - 1, by simp at hn; omega⟩
    rw [code_Regs.l3, if_neg (drop_nil hdr)]
    exact ⟨x, rfl, by omega, h1, fun a ha => by cases ha⟩
  | cons o ys ih =>
    intro n i x hdr hn h0 h1
    obtain ⟨n, rfl⟩ : ∃ m, n = m + 1 := ⟨n - 1, by simp at hn; omega⟩
    obtain ⟨g1, g2, g3, g4⟩ := drop_cons hdr
    obtain ⟨hr, ha⟩ := ho o g4
    obtain ⟨s, s1, s2, s3⟩ := sets_f hr
    obtain ⟨u, u1, u2, u3⟩ := uses_f hr ha
    rw [code_Regs.l3, if_pos g1, g2]
    simp only [Option.bind_some]
    rw [s1, u1]
    simp only [Option.bind_some]
    obtain ⟨w, w1, w2, w3, w4⟩ := regs_l4 (u := u) (by omega) u2 u (u.length + 1) 0 (if x < s then s else x) (by simp) (by omega) (by split <;> omega) (by split <;> omega)
    have w1' : code_Regs.l4 u (u.length + 1) 0 (if x < s then s else x) = some w := w1
    rw [w1']
    simp only [Option.bind_some]
    rw [wsucc (by omega)]
    have hw : x ≤ w := by split at w2 <;> omega
    obtain ⟨z, z1, z2, z3, z4⟩ := ih n (i + 1) w g3 (by simp at hn; omega) (by omega) w3
    refine ⟨z, z1, by omega, z3, fun o' ho' => ?_⟩
    rcases List.mem_cons.1 ho' with rfl | ho'
    · intro u' hu' a ha'
      rw [u1] at hu'
      obtain rfl := Option.some.inj hu'
      have := w4 a ha'; omega
    · exact z4 o' ho'
theorem regs_l0 {t : S27} (hl : t.f1.length ≤ 40) (ho : ∀ y ∈ t.f1, y.f0.length ≤ 250 ∧ ∀ o ∈ y.f0, Ro o ∧ o.f5.length ≤ 20) : ∀ (ys : List S37) (n i : Nat) (x : Int), t.f1.drop i = ys → ys.length < n → 0 ≤ x → x ≤ 4096 →
    ∃ z, code_Regs.l0 t n i x = some z ∧ x ≤ z ∧ z ≤ 4096 ∧ ∀ y ∈ ys, ∀ o ∈ y.f0, ∀ u, code_Uses.f o = some u → ∀ a ∈ u, a ≤ z := by
  intro ys
  induction ys with
  | nil =>
    intro n i x hdr hn h0 h1
    obtain ⟨n, rfl⟩ : ∃ m, n = m + 1 := ⟨n - 1, by simp at hn; omega⟩
    rw [code_Regs.l0, if_neg (drop_nil hdr)]
    exact ⟨x, rfl, by omega, h1, fun a ha => by cases ha⟩
  | cons y ys ih =>
    intro n i x hdr hn h0 h1
    obtain ⟨n, rfl⟩ : ∃ m, n = m + 1 := ⟨n - 1, by simp at hn; omega⟩
    obtain ⟨g1, g2, g3, g4⟩ := drop_cons hdr
    rw [code_Regs.l0, if_pos g1, g2]
    simp only [Option.bind_some]
    obtain ⟨w, w1, w2, w3, w4⟩ := regs_l3 (ho y g4).1 (ho y g4).2 y.f0 (y.f0.length + 1) 0 x (by simp) (by omega) h0 h1
    have w1' : code_Regs.l3 y (y.f0.length + 1) 0 x = some w := w1
    rw [w1']
    simp only [Option.bind_some]
    rw [wsucc (by omega)]
    obtain ⟨z, z1, z2, z3, z4⟩ := ih n (i + 1) w g3 (by simp at hn; omega) (by omega) w3
    refine ⟨z, z1, by omega, z3, fun y' hy' => ?_⟩
    rcases List.mem_cons.1 hy' with rfl | hy'
    · intro o ho' u hu a ha
      have := w4 o ho' u hu a ha; omega
    · exact z4 y' hy'
theorem regs_l1 {t : S27} (hl : t.f1.length ≤ 40) {m : Nat} (ho : ∀ y ∈ t.f1, Rt y.f1 m) : ∀ (ys : List S37) (n i : Nat) (x : Int), t.f1.drop i = ys → ys.length < n → 0 ≤ x → x ≤ 4096 →
    ∃ z, code_Regs.l1 t n i x = some z ∧ x ≤ z ∧ z ≤ 4096 := by
  intro ys
  induction ys with
  | nil =>
    intro n i x hdr hn h0 h1
    obtain ⟨n, rfl⟩ : ∃ m, n = m + 1 := ⟨n - 1, by simp at hn; omega⟩
    rw [code_Regs.l1, if_neg (drop_nil hdr)]
    exact ⟨x, rfl, by omega, h1⟩
  | cons y ys ih =>
    intro n i x hdr hn h0 h1
    obtain ⟨n, rfl⟩ : ∃ m, n = m + 1 := ⟨n - 1, by simp at hn; omega⟩
    obtain ⟨g1, g2, g3, g4⟩ := drop_cons hdr
    obtain ⟨u, u1, u2, u3⟩ := tuses_f (ho y g4)
    rw [code_Regs.l1, if_pos g1, g2]
    simp only [Option.bind_some]
    rw [u1]
    simp only [Option.bind_some]
    obtain ⟨w, w1, w2, w3⟩ := regs_l2 (u := u) (by omega) u2 u (u.length + 1) 0 x (by simp) (by omega) h0 h1
    have w1' : code_Regs.l2 u (u.length + 1) 0 x = some w := w1
    rw [w1']
    simp only [Option.bind_some]
    rw [wsucc (by omega)]
    obtain ⟨z, z1, z2, z3⟩ := ih n (i + 1) w g3 (by simp at hn; omega) (by omega) w3
    exact ⟨z, z1, by omega, z3⟩
theorem regs_f {t : S27} (hf : Fewp t) (hr : Rf t) : ∃ z, code_Regs.f t = some z ∧ t.f0 ≤ z ∧ 0 ≤ z ∧ z ≤ 4096 ∧ ∀ y ∈ t.f1, ∀ o ∈ y.f0, ∀ u, code_Uses.f o = some u → ∀ a ∈ u, a ≤ z := by
  obtain ⟨f1, f2, f3⟩ := hf
  have hp0 := hr.p0
  have hp1 := hr.p1
  have hx : (if 0 < t.f0 then t.f0 else 0) = t.f0 := by split <;> omega
  unfold code_Regs.f
  rw [hx]
  obtain ⟨w, w1, w2, w3, w4⟩ := regs_l0 f1 (fun y hy => ⟨(f3 y hy).1, fun o ho => ⟨hr.op y hy o ho, (f3 y hy).2 o ho⟩⟩) t.f1 (t.f1.length + 1) 0 t.f0 (by simp) (by omega) hp0 (by omega)
  have w1' : code_Regs.l0 t (t.f1.length + 1) 0 t.f0 = some w := w1
  rw [w1']
  simp only [Option.bind_some]
  obtain ⟨z, z1, z2, z3⟩ := regs_l1 f1 hr.term t.f1 (t.f1.length + 1) 0 w (by simp) (by omega) (by omega) w3
  have z1' : code_Regs.l1 t (t.f1.length + 1) 0 w = some z := z1
  rw [z1']
  exact ⟨z, rfl, by omega, by omega, z3, fun y hy o ho u hu a ha => by have := w4 y hy o ho u hu a ha; omega⟩
/-! #### The law's look at registers -/
theorem law_l2 {z : Int} {u : List Int} (hl : u.length ≤ 1000) (hu : ∀ a ∈ u, Rg a ∧ a ≤ z) : ∀ (ys : List Int) (n i : Nat), u.drop i = ys → ys.length < n → swagelaw14_CodeTexts.l2 z u n i = some (.inr ()) := by
  intro ys
  induction ys with
  | nil =>
    intro n i hdr hn
    obtain ⟨n, rfl⟩ : ∃ m, n = m + 1 := ⟨n - 1, by simp at hn; omega⟩
    rw [swagelaw14_CodeTexts.l2, if_neg (drop_nil hdr)]
  | cons y ys ih =>
    intro n i hdr hn
    obtain ⟨n, rfl⟩ : ∃ m, n = m + 1 := ⟨n - 1, by simp at hn; omega⟩
    obtain ⟨g1, g2, g3, g4⟩ := drop_cons hdr
    obtain ⟨h1, h2⟩ := hu y g4
    rw [swagelaw14_CodeTexts.l2, if_pos g1]
    simp only [jn, g2, Option.bind_some]
    rw [if_neg (by have := h1.1; omega), decide_eq_false (by omega)]
    simp only [Bool.false_eq_true, if_false]
    rw [wsucc (by omega)]
    exact ih n (i + 1) g3 (by simp at hn; omega)
theorem law_l1 {t : S27} {z : Int} {j : Nat} {y : S37} (hy : at? t.f1 (j : Int) = some y) (hl : y.f0.length ≤ 250) (ho : ∀ o ∈ y.f0, Ro o ∧ o.f5.length ≤ 20) (hu : ∀ o ∈ y.f0, ∀ u, code_Uses.f o = some u → ∀ a ∈ u, a ≤ z) :
    ∀ (ys : List S40) (n i : Nat), y.f0.drop i = ys → ys.length < n → swagelaw14_CodeTexts.l1 t z j n i = some (.inr ()) := by
  intro ys
  induction ys with
  | nil =>
    intro n i hdr hn
    obtain ⟨n, rfl⟩ : ∃ m, n = m + 1 := ⟨n - 1, by simp at hn; omega⟩
    rw [swagelaw14_CodeTexts.l1]
    simp only [hy, Option.bind_some]
    rw [if_neg (drop_nil hdr)]
  | cons o ys ih =>
    intro n i hdr hn
    obtain ⟨n, rfl⟩ : ∃ m, n = m + 1 := ⟨n - 1, by simp at hn; omega⟩
    obtain ⟨g1, g2, g3, g4⟩ := drop_cons hdr
    obtain ⟨u, u1, u2, u3⟩ := uses_f (ho o g4).1 (ho o g4).2
    rw [swagelaw14_CodeTexts.l1]
    simp only [hy, Option.bind_some]
    rw [if_pos g1, g2]
    simp only [Option.bind_some]
    rw [u1]
    simp only [Option.bind_some]
    have w := law_l2 (z := z) (u := u) (by omega) (fun a ha => ⟨u2 a ha, hu o g4 u u1 a ha⟩) u (u.length + 1) 0 (by simp) (by omega)
    have w' : swagelaw14_CodeTexts.l2 z u (u.length + 1) 0 = some (.inr ()) := w
    rw [w']
    simp only [Option.bind_some]
    rw [wsucc (by omega)]
    exact ih n (i + 1) g3 (by simp at hn; omega)
theorem law_l0 {t : S27} {z : Int} (hl : t.f1.length ≤ 40) (ho : ∀ y ∈ t.f1, y.f0.length ≤ 250 ∧ ∀ o ∈ y.f0, Ro o ∧ o.f5.length ≤ 20) (hu : ∀ y ∈ t.f1, ∀ o ∈ y.f0, ∀ u, code_Uses.f o = some u → ∀ a ∈ u, a ≤ z) :
    ∀ (ys : List S37) (n i : Nat), t.f1.drop i = ys → ys.length < n → swagelaw14_CodeTexts.l0 t z n i = some (.inr ()) := by
  intro ys
  induction ys with
  | nil =>
    intro n i hdr hn
    obtain ⟨n, rfl⟩ : ∃ m, n = m + 1 := ⟨n - 1, by simp at hn; omega⟩
    rw [swagelaw14_CodeTexts.l0, if_neg (drop_nil hdr)]
  | cons y ys ih =>
    intro n i hdr hn
    obtain ⟨n, rfl⟩ : ∃ m, n = m + 1 := ⟨n - 1, by simp at hn; omega⟩
    obtain ⟨g1, g2, g3, g4⟩ := drop_cons hdr
    rw [swagelaw14_CodeTexts.l0, if_pos g1, g2]
    have w := law_l1 (z := z) g2 (ho y g4).1 (ho y g4).2 (hu y g4) y.f0 (y.f0.length + 1) 0 (by simp) (by omega)
    have w' : swagelaw14_CodeTexts.l1 t z i (y.f0.length + 1) 0 = some (.inr ()) := w
    have e0 : ((some y).elim 0 (fun vy4845 : S37 => vy4845.f0.length) + 1) = y.f0.length + 1 := rfl
    rw [e0, w']
    simp only [Option.bind_some]
    rw [wsucc (by omega)]
    exact ih n (i + 1) g3 (by simp at hn; omega)
/-! #### The graph -/
def Gok (N : Nat) (l : List (List Int)) : Prop := l.length = N ∧ ∀ r ∈ l, r.length ≤ 2 ∧ ∀ a ∈ r, 0 ≤ a ∧ a < (N : Int)
theorem gok_set {N : Nat} {l : List (List Int)} (h : Gok N l) (i : Nat) {r : List Int} (h1 : r.length ≤ 2) (h2 : ∀ a ∈ r, 0 ≤ a ∧ a < (N : Int)) : Gok N (l.set i r) := by
  refine ⟨by rw [List.length_set]; exact h.1, fun q hq => ?_⟩
  rcases List.mem_or_eq_of_mem_set hq with hq | rfl
  · exact h.2 q hq
  · exact ⟨h1, h2⟩
theorem succ_l0 {t : S27} (hl : t.f1.length ≤ 40) (ht : ∀ y ∈ t.f1, Rt y.f1 t.f1.length) : ∀ (ys : List S37) (n i : Nat) (l : List (List Int)), t.f1.drop i = ys → ys.length < n → Gok t.f1.length l → ∃ q, code_Succ.l0 t n l i = some q ∧ Gok t.f1.length q := by
  intro ys
  induction ys with
  | nil =>
    intro n i l hdr hn hg
    obtain ⟨n, rfl⟩ : ∃ m, n = m + 1 := ⟨n - 1, by simp at hn; omega⟩
    rw [code_Succ.l0, if_neg (drop_nil hdr)]
    exact ⟨l, rfl, hg⟩
  | cons y ys ih =>
    intro n i l hdr hn hg
    obtain ⟨n, rfl⟩ : ∃ m, n = m + 1 := ⟨n - 1, by simp at hn; omega⟩
    obtain ⟨g1, g2, g3, g4⟩ := drop_cons hdr
    have hy := ht y g4
    have hat : ∃ r, at? l (i : Int) = some r := by
      have h3 : i < l.length := by rw [hg.1]; omega
      exact ⟨_, by unfold at?; rw [if_pos (by omega)]; exact List.getElem?_eq_getElem (by simpa using h3)⟩
    obtain ⟨r0, hat⟩ := hat
    rw [code_Succ.l0, if_pos g1, g2]
    simp only [Option.bind_some, jn]
    rw [wsucc (by omega), hat]
    simp only [Option.bind_some, Int.toNat_natCast]
    unfold Rt at hy
    by_cases c2 : y.f1.f0 = 2
    · rw [if_pos c2]
      refine ih n (i + 1) _ g3 (by simp at hn; omega) (gok_set hg i (by simp) (fun a ha => ?_))
      simp at ha
      rcases hy with h | h | h | h <;> rcases ha with rfl | rfl <;> omega
    · rw [if_neg c2]
      by_cases c1 : y.f1.f0 = 1
      · rw [if_pos c1]
        refine ih n (i + 1) _ g3 (by simp at hn; omega) (gok_set hg i (by simp) (fun a ha => ?_))
        simp at ha
        subst ha
        rcases hy with h | h | h | h <;> omega
      · rw [if_neg c1]
        exact ih n (i + 1) _ g3 (by simp at hn; omega) hg
theorem succ_f {t : S27} (hf : Fewp t) (hr : Rf t) : ∃ q, code_Succ.f t = some q ∧ Gok t.f1.length q := by
  unfold code_Succ.f
  have h40 := hf.1
  rw [if_pos ⟨by omega, by omega⟩]
  obtain ⟨q, q1, q2⟩ := succ_l0 h40 hr.term t.f1 (t.f1.length + 1) 0 (List.replicate t.f1.length []) (by simp) (by omega) ⟨by simp, fun r hr' => by rw [List.eq_of_mem_replicate hr']; simp⟩
  have q1' : code_Succ.l0 t (t.f1.length + 1) (List.replicate (t.f1.length : Int).toNat []) 0 = some q := by rw [Int.toNat_natCast]; exact q1
  rw [q1']
  exact ⟨q, rfl, q2⟩
theorem gr_l1 {N : Nat} {l : List (List Int)} (hN : l.length = N) {r : List Int} (h1 : r.length ≤ 2) (h2 : ∀ a ∈ r, 0 ≤ a ∧ a < (N : Int)) (j : Int → Option (Sum Bool Unit)) : ∀ (ys : List Int) (n i : Nat), r.drop i = ys → ys.length < n → graph_Right.l1 l r j n i = some (.inr ()) := by
  intro ys
  induction ys with
  | nil =>
    intro n i hdr hn
    obtain ⟨n, rfl⟩ : ∃ m, n = m + 1 := ⟨n - 1, by simp at hn; omega⟩
    rw [graph_Right.l1, if_neg (drop_nil hdr)]
  | cons y ys ih =>
    intro n i hdr hn
    obtain ⟨n, rfl⟩ : ∃ m, n = m + 1 := ⟨n - 1, by simp at hn; omega⟩
    obtain ⟨g1, g2, g3, g4⟩ := drop_cons hdr
    have hy := h2 y g4
    rw [graph_Right.l1, if_pos g1, g2]
    simp only [Option.bind_some, jn]
    rw [if_neg (by omega), decide_eq_false (by omega)]
    simp only [Bool.false_eq_true, if_false]
    rw [wsucc (by omega)]
    exact ih n (i + 1) g3 (by simp at hn; omega)
theorem gr_l0 {N : Nat} {l : List (List Int)} (hN : N ≤ 40) (hg : Gok N l) (j : Int → Option Bool) : ∀ (ys : List (List Int)) (n i : Nat), l.drop i = ys → ys.length < n → graph_Right.l0 l j n i = some (.inr ()) := by
  intro ys
  induction ys with
  | nil =>
    intro n i hdr hn
    obtain ⟨n, rfl⟩ : ∃ m, n = m + 1 := ⟨n - 1, by simp at hn; omega⟩
    rw [graph_Right.l0, if_neg (drop_nil hdr)]
  | cons r ys ih =>
    intro n i hdr hn
    obtain ⟨n, rfl⟩ : ∃ m, n = m + 1 := ⟨n - 1, by simp at hn; omega⟩
    obtain ⟨g1, g2, g3, g4⟩ := drop_cons hdr
    obtain ⟨h1, h2⟩ := hg.2 r g4
    have hlen := hg.1
    have w := fun jj => gr_l1 hg.1 h1 h2 jj r (r.length + 1) 0 (by simp) (by omega)
    have w' : ∀ jj, graph_Right.l1 l r jj (r.length + 1) 0 = some (.inr ()) := w
    rw [graph_Right.l0, if_pos g1, g2]
    simp only [Option.bind_some, jn, w']
    rw [if_neg (by omega), if_neg (by simp), wsucc (by omega)]
    exact ih n (i + 1) g3 (by simp at hn; omega)
theorem gright_f {N : Nat} {l : List (List Int)} (h1 : 1 ≤ N) (hN : N ≤ 40) (hg : Gok N l) : graph_Right.f l = some true := by
  unfold graph_Right.f
  have hlen := hg.1
  have w := fun j => gr_l0 hN hg j l (l.length + 1) 0 (by simp) (by omega)
  have w' : ∀ j, graph_Right.l0 l j (l.length + 1) 0 = some (.inr ()) := w
  simp only [jn, w', Option.bind_some]
  rw [if_pos (by omega), if_pos (by omega)]
  simp
end Go.Proofs.YtmacdhkfgoahcaaDoor.Sy
set_option linter.unusedVariables false
set_option linter.unusedSimpArgs false
namespace Go.Proofs.YtmacdhkfgoahcaaDoor.Sy
open Go Go.RowKit Go.Proofs.YtmacdhkfgoahcaaDoorW.PrintWords Go.Proofs.YtmacdhkfgoahcaaDoor.SyO
/-! #### Alike -/
theorem eqi_l0 {a b : List Int} (hl : a.length ≤ 1000) (hab : a.length = b.length) : ∀ (xs ys : List Int) (n i : Nat), a.drop i = xs → b.drop i = ys → xs.length < n → i ≤ a.length → slices_Equal_int_int.l0 a b n i = some (if xs = ys then .inr () else .inl false) := by
  intro xs
  induction xs with
  | nil =>
    intro ys n i hx hy hn hi
    obtain ⟨n, rfl⟩ : ∃ m, n = m + 1 := ⟨n - 1, by simp at hn; omega⟩
    have hxl := drop_nil hx
    have hy0 : ys = [] := by rw [← hy]; exact List.drop_eq_nil_of_le (by omega)
    subst hy0
    rw [slices_Equal_int_int.l0, if_neg hxl]; simp
  | cons x xs ih =>
    intro ys n i hx hy hn hi
    obtain ⟨n, rfl⟩ : ∃ m, n = m + 1 := ⟨n - 1, by simp at hn; omega⟩
    obtain ⟨h1, h2, h3, h4⟩ := drop_cons hx
    cases ys with
    | nil => have := drop_nil hy; omega
    | cons y ys =>
      obtain ⟨_, g2, g3, _⟩ := drop_cons hy
      rw [slices_Equal_int_int.l0, if_pos h1, h2]
      simp only [Option.bind_some]
      rw [g2]
      simp only [Option.bind_some]
      by_cases hxy : x = y
      · rw [decide_eq_true hxy]
        simp only [Bool.not_true, Bool.false_eq_true, if_false]
        rw [wsucc (by omega), ih ys n (i + 1) h3 g3 (by simp at hn; omega) (by omega)]
        simp [hxy]
      · rw [decide_eq_false hxy]
        simp [hxy]
theorem eqi_f {a b : List Int} (hl : a.length ≤ 1000) : slices_Equal_int_int.f a b = some (decide (a = b)) := by
  unfold slices_Equal_int_int.f
  by_cases h : a.length = b.length
  · have h0 := eqi_l0 hl h a b (a.length + 1) 0 (by simp) (by simp) (by omega) (by omega)
    have h0' : slices_Equal_int_int.l0 a b (a.length + 1) 0 = _ := h0
    rw [h0', decide_eq_true (by omega : (a.length : Int) = (b.length : Int))]
    by_cases e : a = b <;> simp [e]
  · have e : a ≠ b := fun e => h (by rw [e])
    rw [decide_eq_false (by omega : ¬ (a.length : Int) = (b.length : Int))]
    simp [e]
theorem sameOp_f {a b : S40} (hl : a.f5.length ≤ 20) : ∃ r, code_sameOp.f a b = some r ∧ (r = true ↔ a = b) := by
  unfold code_sameOp.f
  simp only [jn]
  rw [eqi_f (by omega)]
  obtain ⟨a0, a1, a2, a3, a4, a5⟩ := a
  obtain ⟨b0, b1, b2, b3, b4, b5⟩ := b
  by_cases h : ([a0, a1, a2, a3, a4] == [b0, b1, b2, b3, b4]) = true
  · refine ⟨decide (a5 = b5), by simp only [h, if_true, Option.bind_some], ?_⟩
    have h2 : [a0, a1, a2, a3, a4] = [b0, b1, b2, b3, b4] := by simpa using h
    simp only [List.cons.injEq] at h2
    obtain ⟨rfl, rfl, rfl, rfl, rfl, _⟩ := h2
    simp
  · refine ⟨false, by rw [if_neg h], ?_⟩
    constructor
    · intro h; cases h
    · intro e
      exfalso; apply h
      injection e with e0 e1 e2 e3 e4 e5
      simp [e0, e1, e2, e3, e4]
theorem same1_l0 {a b : S37} (hl : a.f0.length ≤ 250) (ha : ∀ o ∈ a.f0, o.f5.length ≤ 20) (hab : a.f0.length = b.f0.length) : ∀ (xs ys : List S40) (n i : Nat), a.f0.drop i = xs → b.f0.drop i = ys → xs.length < n → i ≤ a.f0.length →
    ∃ r, code_Same_1.l0 a b (fun x => some x) n i = some r ∧ ((r = .inr () ∧ xs = ys) ∨ (r = .inl false ∧ xs ≠ ys)) := by
  intro xs
  induction xs with
  | nil =>
    intro ys n i hx hy hn hi
    obtain ⟨n, rfl⟩ : ∃ m, n = m + 1 := ⟨n - 1, by simp at hn; omega⟩
    have hxl := drop_nil hx
    have hy0 : ys = [] := by rw [← hy]; exact List.drop_eq_nil_of_le (by omega)
    subst hy0
    rw [code_Same_1.l0, if_neg hxl]
    exact ⟨_, rfl, .inl ⟨rfl, rfl⟩⟩
  | cons x xs ih =>
    intro ys n i hx hy hn hi
    obtain ⟨n, rfl⟩ : ∃ m, n = m + 1 := ⟨n - 1, by simp at hn; omega⟩
    obtain ⟨h1, h2, h3, h4⟩ := drop_cons hx
    cases ys with
    | nil => have := drop_nil hy; omega
    | cons y ys =>
      obtain ⟨_, g2, g3, _⟩ := drop_cons hy
      obtain ⟨s, s1, s2⟩ := sameOp_f (b := y) (ha x h4)
      rw [code_Same_1.l0, if_pos h1, h2]
      simp only [Option.bind_some]
      rw [g2]
      simp only [Option.bind_some]
      rw [s1]
      simp only [Option.bind_some]
      cases s with
      | false => exact ⟨_, rfl, .inr ⟨rfl, fun e => by injection e with e _; have := s2.2 e; cases this⟩⟩
      | true =>
        have hxy := s2.1 rfl
        simp only [Bool.not_true, Bool.false_eq_true, if_false]
        rw [wsucc (by omega)]
        obtain ⟨r, r1, r2⟩ := ih ys n (i + 1) h3 g3 (by simp at hn; omega) (by omega)
        refine ⟨r, r1, ?_⟩
        rcases r2 with ⟨r2, r3⟩ | ⟨r2, r3⟩
        · exact .inl ⟨r2, by rw [hxy, r3]⟩
        · exact .inr ⟨r2, fun e => r3 (by injection e)⟩
theorem same1_f {a b : S37} (hl : a.f0.length ≤ 250) (ha : ∀ o ∈ a.f0, o.f5.length ≤ 20) : ∃ r, code_Same_1.f a b = some r ∧ (r = true ↔ a = b) := by
  unfold code_Same_1.f
  by_cases ht : ((a.f1.f0 == b.f1.f0) && ((a.f1.f1 == b.f1.f1) && ((a.f1.f2 == b.f1.f2) && (a.f1.f3 == b.f1.f3)))) = true
  · rw [if_pos ht]
    simp only [jn]
    have ht2 : a.f1 = b.f1 := by
      simp only [Bool.and_eq_true, beq_iff_eq] at ht
      obtain ⟨e0, e1, e2, e3⟩ := ht
      rcases a with ⟨_, ⟨_, _, _, _⟩⟩; rcases b with ⟨_, ⟨_, _, _, _⟩⟩
      simp only at e0 e1 e2 e3 ⊢
      rw [e0, e1, e2, e3]
    by_cases h : a.f0.length = b.f0.length
    · obtain ⟨r, r1, r2⟩ := same1_l0 (b := b) hl ha h a.f0 b.f0 (a.f0.length + 1) 0 (by simp) (by simp) (by omega) (by omega)
      have r1' : code_Same_1.l0 a b (fun x => some x) (a.f0.length + 1) 0 = some r := r1
      rw [decide_eq_true (by omega : (a.f0.length : Int) = (b.f0.length : Int)), r1']
      simp only [Bool.not_true, Bool.false_eq_true, if_false, Option.bind_some]
      rcases r2 with ⟨rfl, e⟩ | ⟨rfl, e⟩
      · exact ⟨true, rfl, by simp; cases a; cases b; simp only at e ht2; rw [e, ht2]⟩
      · exact ⟨false, rfl, by simp; intro e'; exact e (by rw [e'])⟩
    · rw [decide_eq_false (by omega : ¬ (a.f0.length : Int) = (b.f0.length : Int))]
      exact ⟨false, by simp, by simp; intro e; exact h (by rw [e])⟩
  · rw [if_neg ht]
    refine ⟨false, rfl, by simp; intro e; apply ht; rw [e]; simp⟩
theorem same_l0 {a b : S27} (hl : a.f1.length ≤ 40) (ha : ∀ y ∈ a.f1, y.f0.length ≤ 250 ∧ ∀ o ∈ y.f0, o.f5.length ≤ 20) (hab : a.f1.length = b.f1.length) : ∀ (xs ys : List S37) (n i : Nat), a.f1.drop i = xs → b.f1.drop i = ys → xs.length < n → i ≤ a.f1.length →
    ∃ r, code_Same.l0 a b (fun x => some x) n i = some r ∧ ((r = .inr () ∧ xs = ys) ∨ (r = .inl false ∧ xs ≠ ys)) := by
  intro xs
  induction xs with
  | nil =>
    intro ys n i hx hy hn hi
    obtain ⟨n, rfl⟩ : ∃ m, n = m + 1 := ⟨n - 1, by simp at hn; omega⟩
    have hxl := drop_nil hx
    have hy0 : ys = [] := by rw [← hy]; exact List.drop_eq_nil_of_le (by omega)
    subst hy0
    rw [code_Same.l0, if_neg hxl]
    exact ⟨_, rfl, .inl ⟨rfl, rfl⟩⟩
  | cons x xs ih =>
    intro ys n i hx hy hn hi
    obtain ⟨n, rfl⟩ : ∃ m, n = m + 1 := ⟨n - 1, by simp at hn; omega⟩
    obtain ⟨h1, h2, h3, h4⟩ := drop_cons hx
    cases ys with
    | nil => have := drop_nil hy; omega
    | cons y ys =>
      obtain ⟨_, g2, g3, _⟩ := drop_cons hy
      obtain ⟨s, s1, s2⟩ := same1_f (b := y) (ha x h4).1 (ha x h4).2
      rw [code_Same.l0, if_pos h1, h2]
      simp only [Option.bind_some]
      rw [g2]
      simp only [Option.bind_some]
      rw [s1]
      simp only [Option.bind_some]
      cases s with
      | false => exact ⟨_, rfl, .inr ⟨rfl, fun e => by injection e with e _; have := s2.2 e; cases this⟩⟩
      | true =>
        have hxy := s2.1 rfl
        simp only [Bool.not_true, Bool.false_eq_true, if_false]
        rw [wsucc (by omega)]
        obtain ⟨r, r1, r2⟩ := ih ys n (i + 1) h3 g3 (by simp at hn; omega) (by omega)
        refine ⟨r, r1, ?_⟩
        rcases r2 with ⟨r2, r3⟩ | ⟨r2, r3⟩
        · exact .inl ⟨r2, by rw [hxy, r3]⟩
        · exact .inr ⟨r2, fun e => r3 (by injection e)⟩
theorem same_f {a b : S27} (hf : Fewp a) : ∃ r, code_Same.f a b = some r ∧ (r = true ↔ a = b) := by
  obtain ⟨f1, f2, f3⟩ := hf
  unfold code_Same.f
  by_cases ht : a.f0 = b.f0
  · rw [if_pos ht]
    simp only [jn]
    by_cases h : a.f1.length = b.f1.length
    · obtain ⟨r, r1, r2⟩ := same_l0 (b := b) f1 f3 h a.f1 b.f1 (a.f1.length + 1) 0 (by simp) (by simp) (by omega) (by omega)
      have r1' : code_Same.l0 a b (fun x => some x) (a.f1.length + 1) 0 = some r := r1
      rw [decide_eq_true (by omega : (a.f1.length : Int) = (b.f1.length : Int)), r1']
      simp only [Bool.not_true, Bool.false_eq_true, if_false, Option.bind_some]
      rcases r2 with ⟨rfl, e⟩ | ⟨rfl, e⟩
      · exact ⟨true, rfl, by simp; cases a; cases b; simp only at e ht; rw [e, ht]⟩
      · exact ⟨false, rfl, by simp; intro e'; exact e (by rw [e'])⟩
    · rw [decide_eq_false (by omega : ¬ (a.f1.length : Int) = (b.f1.length : Int))]
      exact ⟨false, by simp, by simp; intro e; exact h (by rw [e])⟩
  · rw [if_neg ht]
    exact ⟨false, rfl, by simp; intro e; exact ht (by rw [e])⟩
end Go.Proofs.YtmacdhkfgoahcaaDoor.Sy
set_option linter.unusedVariables false
set_option linter.unusedSimpArgs false
namespace Go.Proofs.YtmacdhkfgoahcaaDoor.Sy
open Go Go.RowKit Go.Proofs.YtmacdhkfgoahcaaDoorW.PrintWords Go.Proofs.YtmacdhkfgoahcaaDoor.SyO
/-! #### Words -/
def bt (l : List UInt8) : ByteArray := ⟨l.toArray⟩
theorem bt_size (l : List UInt8) : (bt l).size = l.length := by simp [bt, ByteArray.size]
theorem bt_list (l : List UInt8) : (bt l).data.toList = l := by simp [bt]
theorem cat_bt (p q : List UInt8) : cat (bt p) (bt q) = bt (p ++ q) := by simp [cat, bt]
theorem digK_len : ∀ (f u : Nat), (digK f u).length ≤ f
  | 0, _ => by simp [digK]
  | f + 1, u => by
    rw [digK]
    split
    · simp
    · have := digK_len f (u / 10); simp; omega
theorem itoaK_len (n : Int) : (itoaK n).length ≤ 21 := by
  unfold itoaK
  have := digK_len 20 n.natAbs
  have := digK_len 20 n.toNat
  split <;> simp <;> omega
def I64 (n : Int) : Prop := -9223372036854775808 ≤ n ∧ n ≤ 9223372036854775807
theorem itoa_f {b : Int} (h : I64 b) : strconv_Itoa.f b = some (bt (itoaK b)) := by
  unfold strconv_Itoa.f
  rw [if_pos (show -9223372036854775808 ≤ b ∧ b ≤ 9223372036854775807 from h)]; rfl
def vT (n : Int) : List UInt8 := 118 :: itoaK n
def bT (n : Int) : List UInt8 := 98 :: itoaK n
theorem n_f {b : Int} (h : I64 b) : code_n.f b = some (bt (itoaK b)) := by unfold code_n.f; rw [itoa_f h]; rfl
theorem v_f {b : Int} (h : I64 b) : code_v.f b = some (bt (vT b)) := by
  unfold code_v.f
  rw [itoa_f h]
  simp only [Option.bind_some]
  have := itoaK_len b
  rw [if_pos (by rw [bt_size]; show 1 + _ ≤ _; omega)]
  exact congrArg some (cat_bt [118] _)
theorem b_f {b : Int} (h : I64 b) : code_b.f b = some (bt (bT b)) := by
  unfold code_b.f
  rw [itoa_f h]
  simp only [Option.bind_some]
  have := itoaK_len b
  rw [if_pos (by rw [bt_size]; show 1 + _ ≤ _; omega)]
  exact congrArg some (cat_bt [98] _)
theorem vT_len (n : Int) : (vT n).length ≤ 30 := by have := itoaK_len n; simp [vT]; omega
theorem bT_len (n : Int) : (bT n).length ≤ 30 := by have := itoaK_len n; simp [bT]; omega
theorem nT_len (n : Int) : (itoaK n).length ≤ 30 := by have := itoaK_len n; omega
/-! #### Rows of words -/
def jt : List (List UInt8) → List UInt8
  | [] => []
  | x :: r => 32 :: (x ++ jt r)
def jw : List (List UInt8) → List UInt8
  | [] => []
  | x :: r => x ++ jt r
theorem jt_eq : ∀ l : List (List UInt8), Lib.joinTail [32] l = jt l
  | [] => rfl
  | x :: r => by
    have := jt_eq r
    unfold Lib.joinTail at this ⊢
    simp [jt, ← this]
theorem jw_eq (l : List (List UInt8)) : Lib.join l [32] = jw l := by
  cases l with
  | nil => rfl
  | cons x r => rw [Lib.join_cons, jt_eq]; rfl
theorem jt_len : ∀ {l : List (List UInt8)}, (∀ x ∈ l, x.length ≤ 40) → (jt l).length ≤ 41 * l.length
  | [], _ => by simp [jt]
  | x :: r, h => by
    have := jt_len (l := r) (fun y hy => h y (List.mem_cons_of_mem _ hy))
    have := h x List.mem_cons_self
    simp only [jt, List.length_cons, List.length_append]; omega
theorem jw_len {l : List (List UInt8)} (h : ∀ x ∈ l, x.length ≤ 40) : (jw l).length ≤ 41 * l.length := by
  cases l with
  | nil => simp [jw]
  | cons x r =>
    have := jt_len (l := r) (fun y hy => h y (List.mem_cons_of_mem _ hy))
    have := h x List.mem_cons_self
    simp only [jw, List.length_cons, List.length_append]; omega
theorem join_f {l : List (List UInt8)} (hl : l.length ≤ 100) (h : (jw l).length ≤ 100000) : strings_Join.f (l.map bt) (⟨#[32]⟩ : ByteArray) = some (bt (jw l)) := by
  unfold strings_Join.f
  have e1 : ((l.map bt).map (·.data.toList)) = l := by simp [bt, Function.comp_def]
  have e2 : (⟨#[32]⟩ : ByteArray).data.toList = [32] := rfl
  rw [e1, e2, jw_eq, if_pos ⟨by simp; omega, by omega⟩]
  rfl
/-! #### Operations -/
/-- The words of an operation. -/
def opW (o : S40) : List (List UInt8) :=
  if o.f0 = 1 then [[99, 111, 110, 115, 116], vT o.f1, itoaK o.f4]
  else if o.f0 = 2 then [[98, 105, 110, 46] ++ itoaK o.f4, vT o.f1, vT o.f2, vT o.f3]
  else if o.f0 = 3 then [[109, 111, 118, 101], vT o.f1, vT o.f2]
  else if o.f0 = 4 then [[108, 111, 97, 100], vT o.f1, vT o.f2, itoaK o.f4]
  else if o.f0 = 5 then [[115, 116, 111, 114, 101], vT o.f2, itoaK o.f4, vT o.f3]
  else if o.f0 = 6 then [[110, 101, 119], vT o.f1, itoaK o.f4]
  else if o.f0 = 7 then [[99, 97, 108, 108], vT o.f1, itoaK o.f4] ++ o.f5.map vT
  else if o.f0 = 8 then [[114, 101, 97, 100], vT o.f1]
  else [[112, 114, 105, 110, 116], vT o.f2]
theorem opW_len (o : S40) (h : o.f5.length ≤ 20) : (opW o).length ≤ 23 ∧ ∀ x ∈ opW o, x.length ≤ 40 := by
  have h1 := vT_len o.f1; have h2 := vT_len o.f2; have h3 := vT_len o.f3; have h4 := nT_len o.f4
  unfold opW
  refine ⟨?_, ?_⟩
  · repeat' split
    all_goals (simp; try omega)
  · repeat' split
    all_goals (simp; first | omega | exact ⟨by omega, by omega, fun a _ => by have := vT_len a; omega⟩)
theorem opText_l0 {o : S40} (hl : o.f5.length ≤ 20) (ha : ∀ a ∈ o.f5, I64 a) : ∀ (ys : List Int) (n i : Nat) (p : List (List UInt8)), o.f5.drop i = ys → ys.length < n → p.length ≤ 100 + i → code_opText.l0 o n (p.map bt) i = some ((p ++ ys.map vT).map bt) := by
  intro ys
  induction ys with
  | nil =>
    intro n i p hdr hn hp
    obtain ⟨n, rfl⟩ : ∃ m, n = m + 1 := ⟨n - 1, by simp at hn; omega⟩
    rw [code_opText.l0, if_neg (drop_nil hdr)]; simp
  | cons y ys ih =>
    intro n i p hdr hn hp
    obtain ⟨n, rfl⟩ : ∃ m, n = m + 1 := ⟨n - 1, by simp at hn; omega⟩
    obtain ⟨h1, h2, h3, h4⟩ := drop_cons hdr
    rw [code_opText.l0, if_pos h1, h2]
    simp only [Option.bind_some]
    rw [v_f (ha y h4)]
    simp only [Option.bind_some]
    rw [if_pos (by rw [List.length_map]; omega), wsucc (by omega)]
    have e : p.map bt ++ [bt (vT y)] = (p ++ [vT y]).map bt := by simp
    rw [e, ih n (i + 1) _ h3 (by simp at hn; omega) (by simp; omega)]
    simp
theorem Rg.i64 {n : Int} (h : Rg n) : I64 n := by unfold I64; have := h.1; have := h.2; omega
theorem opText_f {o : S40} (h : Ro o) (hl : o.f5.length ≤ 20) (h4 : I64 o.f4) : code_opText.f o = some (bt (jw (opW o))) := by
  obtain ⟨w1, w2⟩ := opW_len o hl
  have w3 := jw_len w2
  have hj := join_f (l := opW o) (by omega) (by omega)
  have n4 := n_f h4
  unfold code_opText.f
  unfold Ro at h
  rcases h with h | h | h | h | h | h | h | h | h
  · have e : opW o = [[99, 111, 110, 115, 116], vT o.f1, itoaK o.f4] := by simp [opW, h.1]
    rw [e] at hj ⊢
    simp only [List.map_cons, List.map_nil] at hj
    rw [if_pos h.1, v_f h.2.1.i64, n4]
    simp only [Option.bind_some]
    exact (congrArg (fun A : Option ByteArray => Option.bind A _) hj).trans rfl
  · have e : opW o = [[98, 105, 110, 46] ++ itoaK o.f4, vT o.f1, vT o.f2, vT o.f3] := by simp [opW, h.1]
    rw [e] at hj ⊢
    simp only [List.map_cons, List.map_nil] at hj
    have hlen := nT_len o.f4
    rw [if_neg (by omega), if_pos h.1, v_f h.2.1.i64, v_f h.2.2.1.i64, v_f h.2.2.2.1.i64, n4]
    simp only [Option.bind_some]
    rw [if_pos (by rw [bt_size]; show 4 + _ ≤ _; omega)]
    have e2 : cat (⟨#[98, 105, 110, 46]⟩ : ByteArray) (bt (itoaK o.f4)) = bt ([98, 105, 110, 46] ++ itoaK o.f4) := cat_bt [98, 105, 110, 46] _
    rw [e2, hj]; rfl
  · have e : opW o = [[109, 111, 118, 101], vT o.f1, vT o.f2] := by simp [opW, h.1]
    rw [e] at hj ⊢
    simp only [List.map_cons, List.map_nil] at hj
    rw [if_neg (by omega), if_neg (by omega), if_pos h.1, v_f h.2.1.i64, v_f h.2.2.1.i64]
    simp only [Option.bind_some]
    exact (congrArg (fun A : Option ByteArray => Option.bind A _) hj).trans rfl
  · have e : opW o = [[108, 111, 97, 100], vT o.f1, vT o.f2, itoaK o.f4] := by simp [opW, h.1]
    rw [e] at hj ⊢
    simp only [List.map_cons, List.map_nil] at hj
    rw [if_neg (by omega), if_neg (by omega), if_neg (by omega), if_pos h.1, v_f h.2.1.i64, v_f h.2.2.1.i64, n4]
    simp only [Option.bind_some]
    exact (congrArg (fun A : Option ByteArray => Option.bind A _) hj).trans rfl
  · have e : opW o = [[115, 116, 111, 114, 101], vT o.f2, itoaK o.f4, vT o.f3] := by simp [opW, h.1]
    rw [e] at hj ⊢
    simp only [List.map_cons, List.map_nil] at hj
    rw [if_neg (by omega), if_neg (by omega), if_neg (by omega), if_neg (by omega), if_pos h.1, v_f h.2.2.1.i64, v_f h.2.2.2.1.i64, n4]
    simp only [Option.bind_some]
    exact (congrArg (fun A : Option ByteArray => Option.bind A _) hj).trans rfl
  · have e : opW o = [[110, 101, 119], vT o.f1, itoaK o.f4] := by simp [opW, h.1]
    rw [e] at hj ⊢
    simp only [List.map_cons, List.map_nil] at hj
    rw [if_neg (by omega), if_neg (by omega), if_neg (by omega), if_neg (by omega), if_neg (by omega), if_pos h.1, v_f h.2.1.i64, n4]
    simp only [Option.bind_some]
    exact (congrArg (fun A : Option ByteArray => Option.bind A _) hj).trans rfl
  · have e : opW o = [[99, 97, 108, 108], vT o.f1, itoaK o.f4] ++ o.f5.map vT := by simp [opW, h.1]
    rw [e] at hj ⊢
    have h0 := opText_l0 hl (fun a ha => (h.2.2.2.2 a ha).i64) o.f5 (o.f5.length + 1) 0 [[99, 97, 108, 108], vT o.f1, itoaK o.f4] (by simp) (by omega) (by simp)
    rw [if_neg (by omega), if_neg (by omega), if_neg (by omega), if_neg (by omega), if_neg (by omega), if_neg (by omega), if_pos h.1, v_f h.2.1.i64, n4]
    simp only [Option.bind_some]
    refine (congrArg (fun A : Option (List ByteArray) => Option.bind A _) h0).trans ?_
    exact (congrArg (fun A : Option ByteArray => Option.bind A _) hj).trans rfl
  · have e : opW o = [[114, 101, 97, 100], vT o.f1] := by simp [opW, h.1]
    rw [e] at hj ⊢
    simp only [List.map_cons, List.map_nil] at hj
    rw [if_neg (by omega), if_neg (by omega), if_neg (by omega), if_neg (by omega), if_neg (by omega), if_neg (by omega), if_neg (by omega), if_pos h.1, v_f h.2.1.i64]
    simp only [Option.bind_some]
    exact (congrArg (fun A : Option ByteArray => Option.bind A _) hj).trans rfl
  · have e : opW o = [[112, 114, 105, 110, 116], vT o.f2] := by simp [opW, h.1]
    rw [e] at hj ⊢
    simp only [List.map_cons, List.map_nil] at hj
    rw [if_neg (by omega), if_neg (by omega), if_neg (by omega), if_neg (by omega), if_neg (by omega), if_neg (by omega), if_neg (by omega), if_neg (by omega), if_pos h.1, v_f h.2.2.1.i64]
    simp only [Option.bind_some]
    exact (congrArg (fun A : Option ByteArray => Option.bind A _) hj).trans rfl
/-! #### Terms -/
def trW (t : S35) : List (List UInt8) :=
  if t.f0 = 1 then [[106, 117, 109, 112], bT t.f2]
  else if t.f0 = 2 then [[98, 114, 97, 110, 99, 104], vT t.f1, bT t.f2, bT t.f3]
  else if t.f0 = 3 then [[114, 101, 116, 117, 114, 110], vT t.f1]
  else [[102, 97, 117, 108, 116], itoaK t.f2]
theorem trW_len (t : S35) : (trW t).length ≤ 23 ∧ ∀ x ∈ trW t, x.length ≤ 40 := by
  have h1 := vT_len t.f1; have h2 := bT_len t.f2; have h3 := bT_len t.f3; have h4 := nT_len t.f2
  unfold trW
  refine ⟨?_, ?_⟩
  · repeat' split
    all_goals simp
  · repeat' split
    all_goals (simp; omega)
theorem trText_f {t : S35} {n : Nat} (h : Rt t n) (hn : n ≤ 4096) (h2 : I64 t.f2) : code_termText.f t = some (bt (jw (trW t))) := by
  obtain ⟨w1, w2⟩ := trW_len t
  have w3 := jw_len w2
  have hj := join_f (l := trW t) (by omega) (by omega)
  unfold code_termText.f
  unfold Rt at h
  rcases h with h | h | h | h
  · have e : trW t = [[106, 117, 109, 112], bT t.f2] := by simp [trW, h.1]
    rw [e] at hj ⊢
    simp only [List.map_cons, List.map_nil] at hj
    rw [if_pos h.1, b_f h2]
    simp only [Option.bind_some]
    exact (congrArg (fun A : Option ByteArray => Option.bind A _) hj).trans rfl
  · have e : trW t = [[98, 114, 97, 110, 99, 104], vT t.f1, bT t.f2, bT t.f3] := by simp [trW, h.1]
    rw [e] at hj ⊢
    simp only [List.map_cons, List.map_nil] at hj
    rw [if_neg (by omega), if_pos h.1, b_f h2, b_f (b := t.f3) (by unfold I64; omega), v_f h.2.2.2.2.2.i64]
    simp only [Option.bind_some]
    exact (congrArg (fun A : Option ByteArray => Option.bind A _) hj).trans rfl
  · have e : trW t = [[114, 101, 116, 117, 114, 110], vT t.f1] := by simp [trW, h.1]
    rw [e] at hj ⊢
    simp only [List.map_cons, List.map_nil] at hj
    rw [if_neg (by omega), if_neg (by omega), if_pos h.1, v_f h.2.1.i64]
    simp only [Option.bind_some]
    exact (congrArg (fun A : Option ByteArray => Option.bind A _) hj).trans rfl
  · have e : trW t = [[102, 97, 117, 108, 116], itoaK t.f2] := by simp [trW, h.1]
    rw [e] at hj ⊢
    simp only [List.map_cons, List.map_nil] at hj
    rw [if_neg (by omega), if_neg (by omega), if_neg (by omega), if_pos h.1, n_f h2]
    simp only [Option.bind_some]
    exact (congrArg (fun A : Option ByteArray => Option.bind A _) hj).trans rfl
end Go.Proofs.YtmacdhkfgoahcaaDoor.Sy
set_option linter.unusedVariables false
set_option linter.unusedSimpArgs false
namespace Go.Proofs.YtmacdhkfgoahcaaDoor.Sy
open Go Go.RowKit Go.Proofs.YtmacdhkfgoahcaaDoorW.PrintWords Go.Proofs.YtmacdhkfgoahcaaDoor.SyO
/-- Rows of text, each with a line feed. -/
def LF (ls : List (List UInt8)) : List UInt8 := (ls.map (· ++ [10])).flatten
def opL (o : S40) : List UInt8 := [32, 32] ++ jw (opW o)
def trL (t : S35) : List UInt8 := [32, 32] ++ jw (trW t)
def lbl (i : Nat) : List UInt8 := bT i ++ [58]
def BL : Nat → List S37 → List (List UInt8)
  | _, [] => []
  | i, b :: r => lbl i :: (b.f0.map opL ++ trL b.f1 :: BL (i + 1) r)
def PL (t : S27) : List UInt8 := jw [[112, 97, 114, 97, 109, 115], itoaK t.f0]
theorem LF_append (a b : List (List UInt8)) : LF (a ++ b) = LF a ++ LF b := by simp [LF]
theorem LF_cons (a : List UInt8) (b : List (List UInt8)) : LF (a :: b) = a ++ [10] ++ LF b := by simp [LF]
theorem opL_len {o : S40} (h : o.f5.length ≤ 20) : (opL o).length ≤ 945 := by
  obtain ⟨w1, w2⟩ := opW_len o h
  have := jw_len w2
  simp [opL]; omega
theorem trL_len (t : S35) : (trL t).length ≤ 945 := by
  obtain ⟨w1, w2⟩ := trW_len t
  have := jw_len w2
  simp [trL]; omega
theorem one_f {w : List UInt8} (h : w.length ≤ 1000) : strings_Join.f ([bt w] : List ByteArray) (⟨#[32]⟩ : ByteArray) = some (bt w) := by
  have e : jw [w] = w := by simp [jw, jt]
  have := join_f (l := [w]) (by simp) (by rw [e]; omega)
  rw [e] at this
  exact this
/-- One row more. -/
theorem line_f {s w : List UInt8} (hw : w.length ≤ 1000) (hs : s.length ≤ 10000000) (K : ByteArray → Option ByteArray) :
    ((strings_Join.f ([bt w] : List ByteArray) (⟨#[32]⟩ : ByteArray)).bind fun (y : ByteArray) => (if y.size + (⟨#[10]⟩ : ByteArray).size ≤ 9223372036854775807 then (if (bt s).size + (cat y (⟨#[10]⟩ : ByteArray)).size ≤ 140737488355328 then K (cat (bt s) (cat y (⟨#[10]⟩ : ByteArray))) else none) else none)) = K (bt (s ++ (w ++ [10]))) := by
  rw [one_f hw]
  simp only [Option.bind_some]
  have e : cat (bt w) (⟨#[10]⟩ : ByteArray) = bt (w ++ [10]) := cat_bt w [10]
  rw [e, cat_bt, if_pos (by rw [bt_size]; show _ + 1 ≤ _; omega), if_pos (by rw [bt_size, bt_size]; simp; omega)]
theorem text_l1 {y : S37} (hl : y.f0.length ≤ 250) (ho : ∀ o ∈ y.f0, Ro o ∧ o.f5.length ≤ 20 ∧ I64 o.f4) : ∀ (ys : List S40) (n i : Nat) (s : List UInt8), y.f0.drop i = ys → ys.length < n → s.length + 1000 * ys.length ≤ 9000000 →
    code_Text.l1 y n i (bt s) = some (bt (s ++ LF (ys.map opL))) ∧ (LF (ys.map opL)).length ≤ 1000 * ys.length := by
  intro ys
  induction ys with
  | nil =>
    intro n i s hdr hn hs
    obtain ⟨n, rfl⟩ : ∃ m, n = m + 1 := ⟨n - 1, by simp at hn; omega⟩
    rw [code_Text.l1, if_neg (drop_nil hdr)]; simp [LF]
  | cons o ys ih =>
    intro n i s hdr hn hs
    obtain ⟨n, rfl⟩ : ∃ m, n = m + 1 := ⟨n - 1, by simp at hn; omega⟩
    obtain ⟨h1, h2, h3, h4⟩ := drop_cons hdr
    obtain ⟨r1, r2, r3⟩ := ho o h4
    have hlen := opL_len r2
    have hjl : (jw (opW o)).length ≤ 943 := by simp [opL] at hlen; omega
    simp only [List.length_cons] at hs
    rw [code_Text.l1, if_pos h1, h2]
    simp only [Option.bind_some]
    rw [opText_f r1 r2 r3]
    simp only [Option.bind_some]
    have e : cat (⟨#[32, 32]⟩ : ByteArray) (bt (jw (opW o))) = bt (opL o) := cat_bt [32, 32] _
    rw [if_pos (by rw [bt_size]; show 2 + _ ≤ _; omega), e, line_f (by omega) (by omega), wsucc (by omega)]
    obtain ⟨z1, z2⟩ := ih n (i + 1) (s ++ (opL o ++ [10])) h3 (by simp at hn; omega) (by simp; omega)
    refine ⟨?_, ?_⟩
    · rw [z1, List.map_cons, LF_cons]
      simp
    · rw [List.map_cons, LF_cons]
      simp only [List.length_append, List.length_cons, List.length_nil]
      omega
theorem opsN_cons (y : S37) (r : List S37) : opsN (y :: r) = y.f0.length + opsN r := by simp [opsN]
theorem text_l0 {t : S27} {N : Nat} (hN : N ≤ 4096) (hl : t.f1.length ≤ 40) (ho : ∀ y ∈ t.f1, (y.f0.length ≤ 250 ∧ ∀ o ∈ y.f0, Ro o ∧ o.f5.length ≤ 20 ∧ I64 o.f4) ∧ Rt y.f1 N ∧ I64 y.f1.f2) : ∀ (ys : List S37) (n i : Nat) (s : List UInt8), t.f1.drop i = ys → ys.length < n → s.length + 1000 * (opsN ys + 2 * ys.length) ≤ 9000000 →
    code_Text.l0 t n i (bt s) = some (bt (s ++ LF (BL i ys))) := by
  intro ys
  induction ys with
  | nil =>
    intro n i s hdr hn hs
    obtain ⟨n, rfl⟩ : ∃ m, n = m + 1 := ⟨n - 1, by simp at hn; omega⟩
    rw [code_Text.l0, if_neg (drop_nil hdr)]; simp [LF, BL]
  | cons y ys ih =>
    intro n i s hdr hn hs
    obtain ⟨n, rfl⟩ : ∃ m, n = m + 1 := ⟨n - 1, by simp at hn; omega⟩
    obtain ⟨h1, h2, h3, h4⟩ := drop_cons hdr
    obtain ⟨⟨r1, r2⟩, r3, r4⟩ := ho y h4
    rw [opsN_cons, List.length_cons] at hs
    have hb := bT_len (i : Int)
    have hlb : (lbl i).length ≤ 40 := by simp [lbl]; omega
    have htl := trL_len y.f1
    have hjl : (jw (trW y.f1)).length ≤ 943 := by simp [trL] at htl; omega
    rw [code_Text.l0, if_pos h1, h2]
    simp only [Option.bind_some]
    rw [b_f (b := (i : Int)) (by unfold I64; omega)]
    simp only [Option.bind_some]
    have e1 : cat (bt (bT (i : Int))) (⟨#[58]⟩ : ByteArray) = bt (lbl i) := cat_bt _ [58]
    have e3 : cat (bt (lbl i)) (⟨#[10]⟩ : ByteArray) = bt (lbl i ++ [10]) := cat_bt _ [10]
    rw [if_pos (by rw [bt_size]; show _ + 1 ≤ _; omega), e1, one_f (by omega)]
    simp only [Option.bind_some]
    rw [e3, cat_bt, if_pos (by rw [bt_size]; show _ + 1 ≤ _; omega), if_pos (by rw [bt_size, bt_size]; simp; omega)]
    obtain ⟨z1, z2⟩ := text_l1 r1 r2 y.f0 (y.f0.length + 1) 0 (s ++ (lbl i ++ [10])) (by simp) (by omega) (by simp; omega)
    have z1' : code_Text.l1 y (y.f0.length + 1) 0 (bt (s ++ (lbl i ++ [10]))) = _ := z1
    rw [z1']
    simp only [Option.bind_some]
    rw [trText_f r3 hN r4]
    simp only [Option.bind_some]
    have e2 : cat (⟨#[32, 32]⟩ : ByteArray) (bt (jw (trW y.f1))) = bt (trL y.f1) := cat_bt [32, 32] _
    have e4 : cat (bt (trL y.f1)) (⟨#[10]⟩ : ByteArray) = bt (trL y.f1 ++ [10]) := cat_bt _ [10]
    rw [if_pos (by rw [bt_size]; show 2 + _ ≤ _; omega), e2, one_f (by omega)]
    simp only [Option.bind_some]
    rw [e4, cat_bt, if_pos (by rw [bt_size]; show _ + 1 ≤ _; omega), if_pos (by rw [bt_size, bt_size]; simp; omega), wsucc (by omega)]
    rw [ih n (i + 1) _ h3 (by simp at hn; omega) (by simp; omega)]
    simp only [BL]
    rw [LF_cons, LF_append, LF_cons]
    simp
/-- The text of a function. -/
def txtF (t : S27) : List UInt8 := LF (PL t :: BL 0 t.f1)
theorem text_f {t : S27} (ho : ok27 t) (hf : Fewp t) (hr : Rf t) : code_Text.f t = some (bt (txtF t)) := by
  obtain ⟨f1, f2, f3⟩ := hf
  have hp0 := hr.p0
  have hp1 := hr.p1
  have hn := nT_len t.f0
  have hpl : (PL t).length ≤ 100 := by simp [PL, jw, jt]; omega
  unfold code_Text.f
  rw [n_f (b := t.f0) (by unfold I64; omega)]
  simp only [Option.bind_some]
  have hj := join_f (l := [[112, 97, 114, 97, 109, 115], itoaK t.f0]) (by simp) (by show (PL t).length ≤ _; omega)
  simp only [List.map_cons, List.map_nil] at hj
  refine (congrArg (fun A : Option ByteArray => Option.bind A _) hj).trans ?_
  simp only [Option.bind_some]
  have e1 : cat (bt (PL t)) (⟨#[10]⟩ : ByteArray) = bt (PL t ++ [10]) := cat_bt _ [10]
  have e2 : cat (⟨#[]⟩ : ByteArray) (bt (PL t ++ [10])) = bt (PL t ++ [10]) := cat_bt [] _
  have h0 := text_l0 (N := t.f1.length) (by omega) f1 (fun y hy => ⟨⟨(f3 y hy).1, fun o hox => ⟨hr.op y hy o hox, (f3 y hy).2 o hox, i64_of_wf ((ho.2.2 y hy).1.2 o hox).2.2.2.2.1⟩⟩, hr.term y hy, i64_of_wf (ho.2.2 y hy).2.2.2.1⟩) t.f1 (t.f1.length + 1) 0 (PL t ++ [10]) (by simp) (by omega) (by simp; omega)
  have h0' : code_Text.l0 t (t.f1.length + 1) 0 (bt (PL t ++ [10])) = _ := h0
  show (if (bt (PL t)).size + _ ≤ _ then (if _ + (cat (bt (PL t)) _).size ≤ _ then (code_Text.l0 t (t.f1.length + 1) 0 (cat _ (cat (bt (PL t)) _))).bind _ else none) else none) = _
  rw [e1, e2, h0', if_pos (by rw [bt_size]; show _ + 1 ≤ _; omega), if_pos (by rw [bt_size]; show 0 + _ ≤ _; simp; omega)]
  simp only [Option.bind_some]
  simp [txtF, LF_cons]
end Go.Proofs.YtmacdhkfgoahcaaDoor.Sy
set_option linter.unusedVariables false
set_option linter.unusedSimpArgs false
namespace Go.Proofs.YtmacdhkfgoahcaaDoor.Sy
open Go Go.RowKit Go.Proofs.YtmacdhkfgoahcaaDoorW.PrintWords Go.Proofs.YtmacdhkfgoahcaaDoor.SyO
/-! #### Digits say their number -/
def val (l : List UInt8) : Nat := l.foldl (fun a b => 10 * a + (b.toNat - 48)) 0
theorem val_append (l : List UInt8) (b : UInt8) : val (l ++ [b]) = 10 * val l + (b.toNat - 48) := by simp [val]
theorem dig_toNat {d : Nat} (h : d < 10) : (UInt8.ofNat (48 + d)).toNat = 48 + d := by
  simp; omega
theorem val_digits (u : Nat) : val (Lib.decDigits u) = u := by
  induction u using Nat.strongRecOn with
  | _ u ih =>
    rw [Lib.decDigits]
    by_cases h : u < 10
    · rw [dif_pos h]
      show val ([] ++ [_]) = u
      rw [val_append, dig_toNat h]
      show 10 * 0 + _ = u
      omega
    · rw [dif_neg h, val_append, ih (u / 10) (by omega), dig_toNat (Nat.mod_lt _ (by omega))]
      omega
theorem digits_rng (u : Nat) : ∀ b ∈ Lib.decDigits u, 48 ≤ b.toNat ∧ b.toNat ≤ 57 := by
  induction u using Nat.strongRecOn with
  | _ u ih =>
    intro b hb
    rw [Lib.decDigits] at hb
    by_cases h : u < 10
    · rw [dif_pos h] at hb
      rw [List.mem_singleton.1 hb, dig_toNat h]; omega
    · rw [dif_neg h] at hb
      rcases List.mem_append.1 hb with hb | hb
      · exact ih (u / 10) (by omega) b hb
      · have := Nat.mod_lt u (show 10 > 0 by omega)
        rw [List.mem_singleton.1 hb, dig_toNat this]; omega
theorem itoa_rng {n : Int} (h : I64 n) : ∀ b ∈ itoaK n, b ≠ 32 ∧ b ≠ 10 := by
  intro b hb
  rw [itoaK_eq h.1 h.2] at hb
  have : b.toNat = 45 ∨ 48 ≤ b.toNat := by
    unfold Lib.itoa at hb
    split at hb
    · rcases List.mem_cons.1 hb with rfl | hb
      · exact .inl rfl
      · exact .inr (digits_rng _ b hb).1
    · exact .inr (digits_rng _ b hb).1
  constructor <;> (intro e; subst e; revert this; decide)
theorem itoa_inj {a b : Int} (ha : I64 a) (hb : I64 b) (h : itoaK a = itoaK b) : a = b := by
  rw [itoaK_eq ha.1 ha.2, itoaK_eq hb.1 hb.2] at h
  unfold Lib.itoa at h
  have no45 : ∀ (l : List UInt8) (m : Nat), 45 :: l = Lib.decDigits m → False := fun l m e => by
    have := digits_rng m 45 (by rw [← e]; exact List.mem_cons_self)
    revert this; decide
  split at h <;> split at h
  · injection h with _ h
    have := congrArg val h
    rw [val_digits, val_digits] at this
    omega
  · exact (no45 _ _ h).elim
  · exact (no45 _ _ h.symm).elim
  · have := congrArg val h
    rw [val_digits, val_digits] at this
    omega
theorem vT_inj {a b : Int} (ha : Rg a) (hb : Rg b) (h : vT a = vT b) : a = b := itoa_inj ha.i64 hb.i64 (by injection h)
theorem bT_inj {a b : Int} (ha : I64 a) (hb : I64 b) (h : bT a = bT b) : a = b := itoa_inj ha hb (by injection h)
/-! #### Words -/
def W0 (x : List UInt8) : Prop := ∀ b ∈ x, b ≠ 32 ∧ b ≠ 10
theorem W0.v {a : Int} (h : I64 a) : W0 (vT a) := fun b hb => by
  rcases List.mem_cons.1 hb with rfl | hb
  · decide
  · exact itoa_rng h b hb
theorem W0.b {a : Int} (h : I64 a) : W0 (bT a) := fun b hb => by
  rcases List.mem_cons.1 hb with rfl | hb
  · decide
  · exact itoa_rng h b hb
theorem cut : ∀ {x y p q : List UInt8}, (∀ b ∈ x, b ≠ 32) → (∀ b ∈ y, b ≠ 32) → (p = [] ∨ ∃ r, p = 32 :: r) → (q = [] ∨ ∃ r, q = 32 :: r) → x ++ p = y ++ q → x = y ∧ p = q
  | [], [], p, q, _, _, _, _, h => ⟨rfl, h⟩
  | [], y :: ys, p, q, _, hy, hp, _, h => by
    rcases hp with rfl | ⟨r, rfl⟩
    · cases h
    · injection h with h1 _
      exact absurd h1.symm (hy y List.mem_cons_self)
  | x :: xs, [], p, q, hx, _, _, hq, h => by
    rcases hq with rfl | ⟨r, rfl⟩
    · cases h
    · injection h with h1 _
      exact absurd h1 (hx x List.mem_cons_self)
  | x :: xs, y :: ys, p, q, hx, hy, hp, hq, h => by
    injection h with h1 h2
    obtain ⟨e1, e2⟩ := cut (fun b hb => hx b (List.mem_cons_of_mem _ hb)) (fun b hb => hy b (List.mem_cons_of_mem _ hb)) hp hq h2
    exact ⟨by rw [h1, e1], e2⟩
theorem jt_head (l : List (List UInt8)) : jt l = [] ∨ ∃ r, jt l = 32 :: r := by
  cases l with
  | nil => exact .inl rfl
  | cons x r => exact .inr ⟨_, rfl⟩
theorem jt_inj : ∀ {l k : List (List UInt8)}, (∀ x ∈ l, W0 x) → (∀ x ∈ k, W0 x) → jt l = jt k → l = k
  | [], [], _, _, _ => rfl
  | [], y :: k, _, _, h => by cases h
  | x :: l, [], _, _, h => by cases h
  | x :: l, y :: k, hl, hk, h => by
    injection h with _ h
    obtain ⟨e1, e2⟩ := cut (fun b hb => (hl x List.mem_cons_self b hb).1) (fun b hb => (hk y List.mem_cons_self b hb).1) (jt_head l) (jt_head k) h
    rw [e1, jt_inj (fun z hz => hl z (List.mem_cons_of_mem _ hz)) (fun z hz => hk z (List.mem_cons_of_mem _ hz)) e2]
theorem jw_inj {x y : List UInt8} {l k : List (List UInt8)} (hl : ∀ z ∈ x :: l, W0 z) (hk : ∀ z ∈ y :: k, W0 z) (h : jw (x :: l) = jw (y :: k)) : x :: l = y :: k := by
  obtain ⟨e1, e2⟩ := cut (fun b hb => (hl x List.mem_cons_self b hb).1) (fun b hb => (hk y List.mem_cons_self b hb).1) (jt_head l) (jt_head k) h
  rw [e1, jt_inj (fun z hz => hl z (List.mem_cons_of_mem _ hz)) (fun z hz => hk z (List.mem_cons_of_mem _ hz)) e2]
theorem jt_no : ∀ {l : List (List UInt8)}, (∀ x ∈ l, W0 x) → ∀ b ∈ jt l, b ≠ 10
  | [], _, b, hb => by cases hb
  | x :: r, h, b, hb => by
    rcases List.mem_cons.1 hb with rfl | hb
    · decide
    rcases List.mem_append.1 hb with hb | hb
    · exact (h x List.mem_cons_self b hb).2
    · exact jt_no (fun z hz => h z (List.mem_cons_of_mem _ hz)) b hb
theorem jw_no {l : List (List UInt8)} (h : ∀ x ∈ l, W0 x) : ∀ b ∈ jw l, b ≠ 10 := by
  intro b hb
  cases l with
  | nil => cases hb
  | cons x r =>
    rcases List.mem_append.1 hb with hb | hb
    · exact (h x List.mem_cons_self b hb).2
    · exact jt_no (fun z hz => h z (List.mem_cons_of_mem _ hz)) b hb
theorem W0.lit {x : List UInt8} (h : (x.all fun b => decide (b ≠ 32) && decide (b ≠ 10)) = true) : W0 x := fun b hb => by
  have := List.all_eq_true.1 h b hb
  simpa using this
/-! #### Operations -/
theorem opW_no {o : S40} (h : Ro o) (h4 : I64 o.f4) : ∀ x ∈ opW o, W0 x := by
  have i4 : W0 (itoaK o.f4) := itoa_rng h4
  unfold Ro at h
  rcases h with h | h | h | h | h | h | h | h | h
  · intro x hx; simp [opW, h.1] at hx
    rcases hx with rfl | rfl | rfl
    · exact W0.lit (by decide)
    · exact W0.v h.2.1.i64
    · exact i4
  · intro x hx; simp [opW, h.1] at hx
    rcases hx with rfl | rfl | rfl | rfl
    · intro b hb
      simp at hb
      rcases hb with rfl | rfl | rfl | rfl | hb
      · decide
      · decide
      · decide
      · decide
      · exact i4 b hb
    · exact W0.v h.2.1.i64
    · exact W0.v h.2.2.1.i64
    · exact W0.v h.2.2.2.1.i64
  · intro x hx; simp [opW, h.1] at hx
    rcases hx with rfl | rfl | rfl
    · exact W0.lit (by decide)
    · exact W0.v h.2.1.i64
    · exact W0.v h.2.2.1.i64
  · intro x hx; simp [opW, h.1] at hx
    rcases hx with rfl | rfl | rfl | rfl
    · exact W0.lit (by decide)
    · exact W0.v h.2.1.i64
    · exact W0.v h.2.2.1.i64
    · exact i4
  · intro x hx; simp [opW, h.1] at hx
    rcases hx with rfl | rfl | rfl | rfl
    · exact W0.lit (by decide)
    · exact W0.v h.2.2.1.i64
    · exact i4
    · exact W0.v h.2.2.2.1.i64
  · intro x hx; simp [opW, h.1] at hx
    rcases hx with rfl | rfl | rfl
    · exact W0.lit (by decide)
    · exact W0.v h.2.1.i64
    · exact i4
  · intro x hx; simp [opW, h.1] at hx
    rcases hx with rfl | rfl | rfl | ⟨a, ha, rfl⟩
    · exact W0.lit (by decide)
    · exact W0.v h.2.1.i64
    · exact i4
    · exact W0.v (h.2.2.2.2 a ha).i64
  · intro x hx; simp [opW, h.1] at hx
    rcases hx with rfl | rfl
    · exact W0.lit (by decide)
    · exact W0.v h.2.1.i64
  · intro x hx; simp [opW, h.1] at hx
    rcases hx with rfl | rfl
    · exact W0.lit (by decide)
    · exact W0.v h.2.2.1.i64
theorem map_vT : ∀ {l k : List Int}, (∀ a ∈ l, Rg a) → (∀ a ∈ k, Rg a) → l.map vT = k.map vT → l = k
  | [], [], _, _, _ => rfl
  | [], y :: k, _, _, h => by cases h
  | x :: l, [], _, _, h => by cases h
  | x :: l, y :: k, hl, hk, h => by
    simp only [List.map_cons] at h
    injection h with h1 h2
    rw [vT_inj (hl x List.mem_cons_self) (hk y List.mem_cons_self) h1, map_vT (fun z hz => hl z (List.mem_cons_of_mem _ hz)) (fun z hz => hk z (List.mem_cons_of_mem _ hz)) h2]
theorem op_fin {a b : S40} (e0 : a.f0 = b.f0) (e1 : a.f1 = b.f1) (e2 : a.f2 = b.f2) (e3 : a.f3 = b.f3) (e4 : a.f4 = b.f4) (e5 : a.f5 = b.f5) : a = b := by
  cases a; cases b; simp only at e0 e1 e2 e3 e4 e5; rw [e0, e1, e2, e3, e4, e5]
theorem op_kind {a b : S40} (ha : Ro a) (hb : Ro b) (h : opW a = opW b) : a.f0 = b.f0 := by
  unfold Ro at ha hb
  rcases ha with h1 | h1 | h1 | h1 | h1 | h1 | h1 | h1 | h1 <;> rcases hb with h2 | h2 | h2 | h2 | h2 | h2 | h2 | h2 | h2 <;> first
    | exact h1.1.trans h2.1.symm
    | (exfalso; simp [opW, h1.1, h2.1] at h; done)
theorem op_inj {a b : S40} (ha : Ro a) (hb : Ro b) (a4 : I64 a.f4) (b4 : I64 b.f4) (h : opW a = opW b) : a = b := by
  have hk := op_kind ha hb h
  unfold Ro at ha hb
  rcases ha with h1 | h1 | h1 | h1 | h1 | h1 | h1 | h1 | h1
  · have h2 : Rg b.f1 ∧ b.f2 = 0 ∧ b.f3 = 0 ∧ b.f5 = [] := by
      have kb := hk ▸ h1.1
      rcases hb with q | q | q | q | q | q | q | q | q <;> first | exact q.2 | (exfalso; have := q.1; omega)
    have kb : b.f0 = 1 := hk ▸ h1.1
    simp [opW, h1.1, kb] at h
    exact op_fin hk (vT_inj h1.2.1 h2.1 h.1) (by rw [h1.2.2.1, h2.2.1]) (by rw [h1.2.2.2.1, h2.2.2.1]) (itoa_inj a4 b4 h.2) (by rw [h1.2.2.2.2, h2.2.2.2])
  · have h2 : Rg b.f1 ∧ Rg b.f2 ∧ Rg b.f3 ∧ b.f5 = [] := by
      have kb := hk ▸ h1.1
      rcases hb with q | q | q | q | q | q | q | q | q <;> first | exact q.2 | (exfalso; have := q.1; omega)
    have kb : b.f0 = 2 := hk ▸ h1.1
    simp [opW, h1.1, kb] at h
    exact op_fin hk (vT_inj h1.2.1 h2.1 h.2.1) (vT_inj h1.2.2.1 h2.2.1 h.2.2.1) (vT_inj h1.2.2.2.1 h2.2.2.1 h.2.2.2) (itoa_inj a4 b4 h.1) (by rw [h1.2.2.2.2, h2.2.2.2])
  · have h2 : Rg b.f1 ∧ Rg b.f2 ∧ b.f3 = 0 ∧ b.f4 = 0 ∧ b.f5 = [] := by
      have kb := hk ▸ h1.1
      rcases hb with q | q | q | q | q | q | q | q | q <;> first | exact q.2 | (exfalso; have := q.1; omega)
    have kb : b.f0 = 3 := hk ▸ h1.1
    simp [opW, h1.1, kb] at h
    exact op_fin hk (vT_inj h1.2.1 h2.1 h.1) (vT_inj h1.2.2.1 h2.2.1 h.2) (by rw [h1.2.2.2.1, h2.2.2.1]) (by rw [h1.2.2.2.2.1, h2.2.2.2.1]) (by rw [h1.2.2.2.2.2, h2.2.2.2.2])
  · have h2 : Rg b.f1 ∧ Rg b.f2 ∧ b.f3 = 0 ∧ b.f5 = [] := by
      have kb := hk ▸ h1.1
      rcases hb with q | q | q | q | q | q | q | q | q <;> first | exact q.2 | (exfalso; have := q.1; omega)
    have kb : b.f0 = 4 := hk ▸ h1.1
    simp [opW, h1.1, kb] at h
    exact op_fin hk (vT_inj h1.2.1 h2.1 h.1) (vT_inj h1.2.2.1 h2.2.1 h.2.1) (by rw [h1.2.2.2.1, h2.2.2.1]) (itoa_inj a4 b4 h.2.2) (by rw [h1.2.2.2.2, h2.2.2.2])
  · have h2 : b.f1 = 0 ∧ Rg b.f2 ∧ Rg b.f3 ∧ b.f5 = [] := by
      have kb := hk ▸ h1.1
      rcases hb with q | q | q | q | q | q | q | q | q <;> first | exact q.2 | (exfalso; have := q.1; omega)
    have kb : b.f0 = 5 := hk ▸ h1.1
    simp [opW, h1.1, kb] at h
    exact op_fin hk (by rw [h1.2.1, h2.1]) (vT_inj h1.2.2.1 h2.2.1 h.1) (vT_inj h1.2.2.2.1 h2.2.2.1 h.2.2) (itoa_inj a4 b4 h.2.1) (by rw [h1.2.2.2.2, h2.2.2.2])
  · have h2 : Rg b.f1 ∧ b.f2 = 0 ∧ b.f3 = 0 ∧ b.f5 = [] := by
      have kb := hk ▸ h1.1
      rcases hb with q | q | q | q | q | q | q | q | q <;> first | exact q.2 | (exfalso; have := q.1; omega)
    have kb : b.f0 = 6 := hk ▸ h1.1
    simp [opW, h1.1, kb] at h
    exact op_fin hk (vT_inj h1.2.1 h2.1 h.1) (by rw [h1.2.2.1, h2.2.1]) (by rw [h1.2.2.2.1, h2.2.2.1]) (itoa_inj a4 b4 h.2) (by rw [h1.2.2.2.2, h2.2.2.2])
  · have h2 : Rg b.f1 ∧ b.f2 = 0 ∧ b.f3 = 0 ∧ ∀ a ∈ b.f5, Rg a := by
      have kb := hk ▸ h1.1
      rcases hb with q | q | q | q | q | q | q | q | q <;> first | exact q.2 | (exfalso; have := q.1; omega)
    have kb : b.f0 = 7 := hk ▸ h1.1
    have h : [[99, 97, 108, 108], vT a.f1, itoaK a.f4] ++ a.f5.map vT = [[99, 97, 108, 108], vT b.f1, itoaK b.f4] ++ b.f5.map vT := by simpa [opW, h1.1, kb] using h
    simp only [List.cons_append, List.nil_append, List.cons.injEq, true_and] at h
    exact op_fin hk (vT_inj h1.2.1 h2.1 h.1) (by rw [h1.2.2.1, h2.2.1]) (by rw [h1.2.2.2.1, h2.2.2.1]) (itoa_inj a4 b4 h.2.1) (map_vT h1.2.2.2.2 h2.2.2.2 h.2.2)
  · have h2 : Rg b.f1 ∧ b.f2 = 0 ∧ b.f3 = 0 ∧ b.f4 = 0 ∧ b.f5 = [] := by
      have kb := hk ▸ h1.1
      rcases hb with q | q | q | q | q | q | q | q | q <;> first | exact q.2 | (exfalso; have := q.1; omega)
    have kb : b.f0 = 8 := hk ▸ h1.1
    simp [opW, h1.1, kb] at h
    exact op_fin hk (vT_inj h1.2.1 h2.1 h) (by rw [h1.2.2.1, h2.2.1]) (by rw [h1.2.2.2.1, h2.2.2.1]) (by rw [h1.2.2.2.2.1, h2.2.2.2.1]) (by rw [h1.2.2.2.2.2, h2.2.2.2.2])
  · have h2 : b.f1 = 0 ∧ Rg b.f2 ∧ b.f3 = 0 ∧ b.f4 = 0 ∧ b.f5 = [] := by
      have kb := hk ▸ h1.1
      rcases hb with q | q | q | q | q | q | q | q | q <;> first | exact q.2 | (exfalso; have := q.1; omega)
    have kb : b.f0 = 9 := hk ▸ h1.1
    simp [opW, h1.1, kb] at h
    exact op_fin hk (by rw [h1.2.1, h2.1]) (vT_inj h1.2.2.1 h2.2.1 h) (by rw [h1.2.2.2.1, h2.2.2.1]) (by rw [h1.2.2.2.2.1, h2.2.2.2.1]) (by rw [h1.2.2.2.2.2, h2.2.2.2.2])
/-! #### Terms -/
theorem trW_no {t : S35} {n : Nat} (h : Rt t n) (hn : n ≤ 4096) (h2 : I64 t.f2) : ∀ x ∈ trW t, W0 x := by
  unfold Rt at h
  rcases h with h | h | h | h
  · intro x hx; simp [trW, h.1] at hx
    rcases hx with rfl | rfl
    · exact W0.lit (by decide)
    · exact W0.b h2
  · intro x hx; simp [trW, h.1] at hx
    rcases hx with rfl | rfl | rfl | rfl
    · exact W0.lit (by decide)
    · exact W0.v h.2.2.2.2.2.i64
    · exact W0.b h2
    · exact W0.b (by unfold I64; omega)
  · intro x hx; simp [trW, h.1] at hx
    rcases hx with rfl | rfl
    · exact W0.lit (by decide)
    · exact W0.v h.2.1.i64
  · intro x hx; simp [trW, h.1] at hx
    rcases hx with rfl | rfl
    · exact W0.lit (by decide)
    · exact itoa_rng h2
theorem tr_fin {a b : S35} (e0 : a.f0 = b.f0) (e1 : a.f1 = b.f1) (e2 : a.f2 = b.f2) (e3 : a.f3 = b.f3) : a = b := by
  cases a; cases b; simp only at e0 e1 e2 e3; rw [e0, e1, e2, e3]
theorem tr_kind {a b : S35} {n m : Nat} (ha : Rt a n) (hb : Rt b m) (h : trW a = trW b) : a.f0 = b.f0 := by
  unfold Rt at ha hb
  rcases ha with h1 | h1 | h1 | h1 <;> rcases hb with h2 | h2 | h2 | h2 <;> first
    | exact h1.1.trans h2.1.symm
    | (exfalso; simp [trW, h1.1, h2.1] at h; done)
theorem tr_inj {a b : S35} {n m : Nat} (ha : Rt a n) (hb : Rt b m) (hn : n ≤ 4096) (hm : m ≤ 4096) (a2 : I64 a.f2) (b2 : I64 b.f2) (h : trW a = trW b) : a = b := by
  have hk := tr_kind ha hb h
  unfold Rt at ha hb
  rcases ha with h1 | h1 | h1 | h1
  · have h2 : 0 ≤ b.f2 ∧ b.f2 < m ∧ b.f1 = 0 ∧ b.f3 = 0 := by
      have kb := hk ▸ h1.1
      rcases hb with q | q | q | q <;> first | exact q.2 | (exfalso; have := q.1; omega)
    have kb : b.f0 = 1 := hk ▸ h1.1
    simp [trW, h1.1, kb] at h
    exact tr_fin hk (by rw [h1.2.2.2.1, h2.2.2.1]) (bT_inj a2 b2 h) (by rw [h1.2.2.2.2, h2.2.2.2])
  · have h2 : 0 ≤ b.f2 ∧ b.f2 < m ∧ 0 ≤ b.f3 ∧ b.f3 < m ∧ Rg b.f1 := by
      have kb := hk ▸ h1.1
      rcases hb with q | q | q | q <;> first | exact q.2 | (exfalso; have := q.1; omega)
    have kb : b.f0 = 2 := hk ▸ h1.1
    simp [trW, h1.1, kb] at h
    exact tr_fin hk (vT_inj h1.2.2.2.2.2 h2.2.2.2.2 h.1) (bT_inj a2 b2 h.2.1) (bT_inj (by unfold I64; omega) (by unfold I64; omega) h.2.2)
  · have h2 : Rg b.f1 ∧ b.f2 = 0 ∧ b.f3 = 0 := by
      have kb := hk ▸ h1.1
      rcases hb with q | q | q | q <;> first | exact q.2 | (exfalso; have := q.1; omega)
    have kb : b.f0 = 3 := hk ▸ h1.1
    simp [trW, h1.1, kb] at h
    exact tr_fin hk (vT_inj h1.2.1 h2.1 h) (by rw [h1.2.2.1, h2.2.1]) (by rw [h1.2.2.2, h2.2.2])
  · have h2 : b.f1 = 0 ∧ b.f3 = 0 := by
      have kb := hk ▸ h1.1
      rcases hb with q | q | q | q <;> first | exact q.2 | (exfalso; have := q.1; omega)
    have kb : b.f0 = 4 := hk ▸ h1.1
    simp [trW, h1.1, kb] at h
    exact tr_fin hk (by rw [h1.2.1, h2.1]) (itoa_inj a2 b2 h) (by rw [h1.2.2, h2.2])
end Go.Proofs.YtmacdhkfgoahcaaDoor.Sy
set_option linter.unusedVariables false
set_option linter.unusedSimpArgs false
namespace Go.Proofs.YtmacdhkfgoahcaaDoor.Sy
open Go Go.RowKit Go.Proofs.YtmacdhkfgoahcaaDoorW.PrintWords Go.Proofs.YtmacdhkfgoahcaaDoor.SyO
theorem small_true : swagelaw14_small.f = some true := by decide +kernel
theorem split_at {c : UInt8} : ∀ {l k p q : List UInt8}, (∀ b ∈ l, b ≠ c) → (∀ b ∈ k, b ≠ c) → l ++ c :: p = k ++ c :: q → l = k ∧ p = q
  | [], [], p, q, _, _, h => by simpa using h
  | [], y :: k, p, q, _, hk, h => by
    injection h with h1 h2
    exact absurd h1.symm (hk y List.mem_cons_self)
  | x :: l, [], p, q, hl, _, h => by
    injection h with h1 h2
    exact absurd h1 (hl x List.mem_cons_self)
  | x :: l, y :: k, p, q, hl, hk, h => by
    injection h with h1 h2
    obtain ⟨e1, e2⟩ := split_at (fun b hb => hl b (List.mem_cons_of_mem _ hb)) (fun b hb => hk b (List.mem_cons_of_mem _ hb)) h2
    exact ⟨by rw [h1, e1], e2⟩
theorem LF_inj : ∀ {l k : List (List UInt8)}, (∀ x ∈ l, ∀ b ∈ x, b ≠ 10) → (∀ x ∈ k, ∀ b ∈ x, b ≠ 10) → LF l = LF k → l = k
  | [], [], _, _, _ => rfl
  | [], y :: k, _, _, h => by
    rw [LF_cons] at h
    have := congrArg List.length h
    simp [LF] at this
  | x :: l, [], _, _, h => by
    rw [LF_cons] at h
    have := congrArg List.length h
    simp [LF] at this
  | x :: l, y :: k, hl, hk, h => by
    rw [LF_cons, LF_cons, List.append_assoc, List.append_assoc] at h
    obtain ⟨e1, e2⟩ := split_at (c := 10) (hl x List.mem_cons_self) (hk y List.mem_cons_self) h
    rw [e1, LF_inj (fun z hz => hl z (List.mem_cons_of_mem _ hz)) (fun z hz => hk z (List.mem_cons_of_mem _ hz)) e2]
/-- A row that begins with a blank. -/
def Sp (x : List UInt8) : Prop := ∃ r, x = 32 :: r
theorem grp : ∀ {p q p' q' : List (List UInt8)}, (∀ x ∈ p, Sp x) → (∀ x ∈ p', Sp x) → (q = [] ∨ ∃ h r, q = h :: r ∧ ¬ Sp h) → (q' = [] ∨ ∃ h r, q' = h :: r ∧ ¬ Sp h) → p ++ q = p' ++ q' → p = p' ∧ q = q'
  | [], q, [], q', _, _, _, _, h => ⟨rfl, h⟩
  | [], q, y :: p', q', _, hp', hq, _, h => by
    rcases hq with rfl | ⟨a, r, rfl, ha⟩
    · cases h
    · injection h with h1 _
      exact absurd (h1 ▸ hp' y List.mem_cons_self) ha
  | x :: p, q, [], q', hp, _, _, hq', h => by
    rcases hq' with rfl | ⟨a, r, rfl, ha⟩
    · cases h
    · injection h with h1 _
      exact absurd (h1 ▸ hp x List.mem_cons_self) ha
  | x :: p, q, y :: p', q', hp, hp', hq, hq', h => by
    injection h with h1 h2
    obtain ⟨e1, e2⟩ := grp (fun z hz => hp z (List.mem_cons_of_mem _ hz)) (fun z hz => hp' z (List.mem_cons_of_mem _ hz)) hq hq' h2
    exact ⟨by rw [h1, e1], e2⟩
theorem BL_head (i : Nat) (l : List S37) : BL i l = [] ∨ ∃ h r, BL i l = h :: r ∧ ¬ Sp h := by
  cases l with
  | nil => exact .inl rfl
  | cons b r =>
    refine .inr ⟨_, _, rfl, ?_⟩
    rintro ⟨q, hq⟩
    injection hq with h1 _
    exact absurd h1 (by decide)
/-- What a block of a right function bears. -/
structure Bk (y : S37) (n : Nat) : Prop where
  op : ∀ o ∈ y.f0, Ro o ∧ I64 o.f4
  term : Rt y.f1 n
  dst : I64 y.f1.f2
theorem opL_inj {l k : List S40} (hl : ∀ o ∈ l, Ro o ∧ I64 o.f4) (hk : ∀ o ∈ k, Ro o ∧ I64 o.f4) (h : l.map opL = k.map opL) : l = k := by
  induction l generalizing k with
  | nil =>
    cases k with
    | nil => rfl
    | cons y k => cases h
  | cons x l ih =>
    cases k with
    | nil => cases h
    | cons y k =>
      simp only [List.map_cons] at h
      injection h with h1 h2
      have hx := hl x List.mem_cons_self
      have hy := hk y List.mem_cons_self
      have hw : jw (opW x) = jw (opW y) := List.append_cancel_left h1
      have nex : opW x ≠ [] := by unfold opW; (repeat' split) <;> simp
      have ney : opW y ≠ [] := by unfold opW; (repeat' split) <;> simp
      have e : opW x = opW y := by
        have n1 := opW_no hx.1 hx.2
        have n2 := opW_no hy.1 hy.2
        match e1 : opW x, e2 : opW y, nex, ney with
        | a :: r, b :: s, _, _ =>
          rw [e1] at n1 hw
          rw [e2] at n2 hw
          exact jw_inj n1 n2 hw
      rw [op_inj hx.1 hy.1 hx.2 hy.2 e, ih (fun o ho => hl o (List.mem_cons_of_mem _ ho)) (fun o ho => hk o (List.mem_cons_of_mem _ ho)) h2]
theorem trL_inj {a b : S35} {n m : Nat} (ha : Rt a n) (hb : Rt b m) (hn : n ≤ 4096) (hm : m ≤ 4096) (a2 : I64 a.f2) (b2 : I64 b.f2) (h : trL a = trL b) : a = b := by
  have hw : jw (trW a) = jw (trW b) := List.append_cancel_left h
  have nex : trW a ≠ [] := by unfold trW; (repeat' split) <;> simp
  have ney : trW b ≠ [] := by unfold trW; (repeat' split) <;> simp
  have e : trW a = trW b := by
    have n1 := trW_no ha hn a2
    have n2 := trW_no hb hm b2
    match e1 : trW a, e2 : trW b, nex, ney with
    | x :: r, y :: s, _, _ =>
      rw [e1] at n1 hw
      rw [e2] at n2 hw
      exact jw_inj n1 n2 hw
  exact tr_inj ha hb hn hm a2 b2 e
theorem body_sp (y : S37) : ∀ x ∈ y.f0.map opL ++ [trL y.f1], Sp x := by
  intro x hx
  rcases List.mem_append.1 hx with hx | hx
  · obtain ⟨o, _, rfl⟩ := List.mem_map.1 hx
    exact ⟨_, rfl⟩
  · rw [List.mem_singleton.1 hx]
    exact ⟨_, rfl⟩
theorem BL_inj {n m : Nat} (hn : n ≤ 4096) (hm : m ≤ 4096) : ∀ {l k : List S37} (i : Nat), (∀ y ∈ l, Bk y n) → (∀ y ∈ k, Bk y m) → BL i l = BL i k → l = k
  | [], [], _, _, _, _ => rfl
  | [], y :: k, _, _, _, h => by cases h
  | x :: l, [], _, _, _, h => by cases h
  | x :: l, y :: k, i, hl, hk, h => by
    simp only [BL] at h
    injection h with _ h
    have e : ∀ (z : S37) (q : List (List UInt8)), z.f0.map opL ++ trL z.f1 :: q = (z.f0.map opL ++ [trL z.f1]) ++ q := fun z q => by simp
    rw [e x (BL (i + 1) l), e y (BL (i + 1) k)] at h
    obtain ⟨e1, e2⟩ := grp (body_sp x) (body_sp y) (BL_head _ l) (BL_head _ k) h
    obtain ⟨e3, e4⟩ := List.append_inj' e1 rfl
    have hx := hl x List.mem_cons_self
    have hy := hk y List.mem_cons_self
    have e5 := opL_inj hx.op hy.op e3
    have e6 := trL_inj hx.term hy.term hn hm hx.dst hy.dst (by injection e4)
    have e7 := BL_inj hn hm (i + 1) (fun z hz => hl z (List.mem_cons_of_mem _ hz)) (fun z hz => hk z (List.mem_cons_of_mem _ hz)) e2
    cases x; cases y
    simp only at e5 e6
    rw [e5, e6, e7]
theorem BL_no {n : Nat} (hn : n ≤ 4096) : ∀ {l : List S37} (i : Nat), i + l.length ≤ 100000 → (∀ y ∈ l, Bk y n) → ∀ x ∈ BL i l, ∀ b ∈ x, b ≠ 10
  | [], _, _, _, x, hx, _, _ => by cases hx
  | y :: r, i, hi, h, x, hx, b, hb => by
    have hy := h y List.mem_cons_self
    simp only [List.length_cons] at hi
    simp only [BL] at hx
    rcases List.mem_cons.1 hx with rfl | hx
    · rcases List.mem_append.1 hb with hb | hb
      · exact (W0.b (by unfold I64; omega) b hb).2
      · rw [List.mem_singleton.1 hb]; decide
    rcases List.mem_append.1 hx with hx | hx
    · obtain ⟨o, ho, rfl⟩ := List.mem_map.1 hx
      rcases List.mem_append.1 hb with hb | hb
      · revert hb; simp; rintro rfl; decide
      · exact jw_no (opW_no (hy.op o ho).1 (hy.op o ho).2) b hb
    rcases List.mem_cons.1 hx with rfl | hx
    · rcases List.mem_append.1 hb with hb | hb
      · revert hb; simp; rintro rfl; decide
      · exact jw_no (trW_no hy.term hn hy.dst) b hb
    · exact BL_no hn (i + 1) (by omega) (fun z hz => h z (List.mem_cons_of_mem _ hz)) x hx b hb
theorem PL_words {t : S27} (h : I64 t.f0) : ∀ x ∈ [[112, 97, 114, 97, 109, 115], itoaK t.f0], W0 x := by
  intro x hx
  simp at hx
  rcases hx with rfl | rfl
  · exact W0.lit (by decide)
  · exact itoa_rng h
theorem bk_of {t : S27} (ho : ok27 t) (hr : Rf t) : ∀ y ∈ t.f1, Bk y t.f1.length := fun y hy =>
  ⟨fun o hox => ⟨hr.op y hy o hox, i64_of_wf ((ho.2.2 y hy).1.2 o hox).2.2.2.2.1⟩, hr.term y hy, i64_of_wf (ho.2.2 y hy).2.2.2.1⟩
theorem txt_inj {t u : S27} (ht : ok27 t) (hu : ok27 u) (ft : Fewp t) (fu : Fewp u) (rt : Rf t) (ru : Rf u) (h : txtF t = txtF u) : t = u := by
  have t0 : I64 t.f0 := i64_of_wf ht.1
  have u0 : I64 u.f0 := i64_of_wf hu.1
  have tl := ft.1
  have ul := fu.1
  have hno : ∀ {v : S27}, ok27 v → Fewp v → Rf v → I64 v.f0 → ∀ x ∈ PL v :: BL 0 v.f1, ∀ b ∈ x, b ≠ 10 := by
    intro v hv fv rv v0 x hx
    have vl := fv.1
    rcases List.mem_cons.1 hx with rfl | hx
    · exact jw_no (PL_words v0)
    · exact BL_no (n := v.f1.length) (by omega) 0 (by omega) (bk_of hv rv) x hx
  have e := LF_inj (hno ht ft rt t0) (hno hu fu ru u0) h
  injection e with e1 e2
  have e3 := jw_inj (PL_words t0) (PL_words u0) e1
  have e4 : itoaK t.f0 = itoaK u.f0 := by simpa using e3
  have e5 := BL_inj (n := t.f1.length) (m := u.f1.length) (by omega) (by omega) 0 (bk_of ht rt) (bk_of hu ru) e2
  have e6 := itoa_inj t0 u0 e4
  cases t; cases u
  simp only at e5 e6
  rw [e5, e6]
/-- THE LAW. -/
theorem codeTexts_law (t u : S27) (k : Int) (ht : ok27 t) (hu : ok27 u) (hk : (Lit.int .i64 k).wf = true) : swagelaw14_CodeTexts.f t u k = some true := by
  unfold swagelaw14_CodeTexts.f
  obtain ⟨b1, e1, f1⟩ := few_f ht
  obtain ⟨b2, e2, f2⟩ := few_f hu
  rw [small_true, e1, e2]
  simp only [jn, Option.bind_some]
  cases b1 with
  | false => simp
  | true =>
  cases b2 with
  | false => simp
  | true =>
  have ft := f1 rfl
  have fu := f2 rfl
  obtain ⟨r1, g1, h1⟩ := right_f ft k
  obtain ⟨r2, g2, h2⟩ := right_f fu k
  rw [g1, g2]
  simp only [Option.bind_some, if_true, Bool.not_true, Bool.false_eq_true, if_false]
  cases r1 with
  | false => simp
  | true =>
  cases r2 with
  | false => simp
  | true =>
  have rt := h1 rfl
  have ru := h2 rfl
  have tl := ft.1
  obtain ⟨z, z1, z2, z3, z4, z5⟩ := regs_f ft rt
  obtain ⟨q, q1, q2⟩ := succ_f ft rt
  have q3 := gright_f rt.l1 tl q2
  obtain ⟨s, s1, s2⟩ := same_f (b := u) ft
  have x1 := text_f ht ft rt
  have x2 := text_f hu fu ru
  have htx : ((bt (txtF t)).data.toList == (bt (txtF u)).data.toList) = s := by
    rw [bt_list, bt_list]
    cases s with
    | true => rw [s2.1 rfl]; simp
    | false =>
      cases hb : (txtF t == txtF u) with
      | false => rfl
      | true => exact absurd (s2.2 (txt_inj ht hu ft fu rt ru (by simpa using hb))) (by simp)
  have l0 := law_l0 (t := t) (z := z) tl (fun y hy => ⟨(ft.2.2 y hy).1, fun o ho => ⟨rt.op y hy o ho, (ft.2.2 y hy).2 o ho⟩⟩) z5 t.f1 (t.f1.length + 1) 0 (by simp) (by omega)
  have l0' : swagelaw14_CodeTexts.l0 t z (t.f1.length + 1) 0 = some (.inr ()) := l0
  rw [z1]
  simp only [Option.bind_some, Bool.not_true, Bool.false_eq_true, if_false]
  rw [l0', x1, x2, s1, q1]
  simp only [Option.bind_some, htx, q3, beq_self_eq_true, if_true]
  rw [if_pos z2, decide_eq_true z4]
end Go.Proofs.YtmacdhkfgoahcaaDoor.Sy
