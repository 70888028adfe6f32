/- Texts of this work, joined: SxDead, SxKD, SxF37, SxF38, SxF11, PureDA, SxF12, PureDB, SxF13, PureDD, SxF19, SxF33, SxF9, SxF39, SxF15, SxF21, SxF5, PureDE. -/
import Derived.Test.YtmacdhkfgoahcaaSxM
import Derived.Test.YtmacdhkfgoahcaaDeD
import Derived.Test.YtmacdhkfgoahcaaQx0
set_option linter.unusedVariables false
namespace Go.Proofs.Ytmacdhkfgoahcaa.Sx
open Go Go.RowKit Go.Proofs.YtmacdhkfgoahcaaW.PrintWords Go.Proofs.Ytmacdhkfgoahcaa.Q Go.Proofs.Ytmacdhkfgoahcaa.Fo Go.Proofs.Ytmacdhkfgoahcaa.De
instance (n : Int) : Decidable (wf n) := by unfold wf; infer_instance
instance (x : S30) : Decidable (WfOp x) := decidable_of_iff (wf x.f1 ∧ wf x.f2 ∧ wf x.f3 ∧ wf x.f4 ∧ ∀ r ∈ x.f5, wf r) ⟨fun h => ⟨h.1, h.2.1, h.2.2.1, h.2.2.2.1, h.2.2.2.2⟩, fun h => ⟨h.h1, h.h2, h.h3, h.h4, h.h5⟩⟩
def deadstore_Dead.f (a0 : S28) : Option (List Int) := if (∀ x ∈ a0.f0, WfOp x) ∧ a0.f0.length < 1099511627776 then some (deadL a0.f0) else none
def deadstore_Dead.post (G : Gd) (r : (List Int)) (v : Value) (G' : Gd) (Lr : List Ch) : Prop := G = G' ∧ ∃ (A_1 : Option Addr) (c_1 : Nat), v = .slice A_1 r.length c_1 ∧ Lr = [Row (Kd.int .i64) 3 (.slice A_1 r.length c_1) r]
theorem deadstore_Dead.calls {G : Gd} {r : (List Int)} {a0 : S28} {A1 : Option Addr} {c2 : Nat} (hr3 : Rd G k30 A1 a0.f0) (hl4 : a0.f0.length ≤ c2) (h : deadstore_Dead.f a0 = some r) : Fn Try.prog 10 G [] [.agg #[.slice A1 a0.f0.length c2, .int .i64 a0.f1.f0, .int .i64 a0.f1.f1, .int .i64 a0.f1.f2, .int .i64 a0.f1.f3]] (deadstore_Dead.post G r) := fun L W hO => by
  unfold deadstore_Dead.f at h
  obtain ⟨⟨h1, h2⟩, h⟩ := ite_no h
  obtain rfl := Option.some.inj h
  refine (dead_any A1 c2 a0.f0 a0.f1 W (hr3 W hO.ok) h1 h2).mono ?_
  rintro en W' ⟨v, rfl, hR, hB⟩
  obtain ⟨A', c', he, hl', _⟩ := Kd.R_reads hR
  subst he
  refine ⟨_, G, _, rfl, Gd.le.refl _, ⟨rfl, A', c', rfl, rfl⟩, ?_⟩
  refine hO.add hB ?_
  exact Kd.R_lower (base' := G.B) (Kd.R_mono (Kd.R_bound hR) (fun i hi => hi.2.1)) hO.B
end Go.Proofs.Ytmacdhkfgoahcaa.Sx
set_option linter.unusedVariables false
set_option linter.unusedSimpArgs false
set_option maxRecDepth 100000
set_option maxHeartbeats 4000000
namespace Go.Proofs.Ytmacdhkfgoahcaa.Sx
open Go Go.RowKit Go.Proofs.YtmacdhkfgoahcaaW.PrintWords Go.Proofs.Ytmacdhkfgoahcaa.Q
/-! #### struct type 36 -/
structure S36 where
  f0 : Int
  f1 : (List S28)
def z36 : S36 := ⟨(0 : Int), ([] : List S28)⟩
def k36 : Kd S36 := Kd.iso (Kd.pair (Kd.int .i64) (Kd.slice 28 k28)) (fun x : S36 => (x.f0, x.f1))
theorem k36_open {w : World} {x : S36} {cs : List Value} (h : k36.K w x cs) : ∃ A1 c1, cs = [.int .i64 x.f0, .slice A1 x.f1.length c1] ∧ x.f1.length ≤ c1 ∧ k28.C w A1 x.f1.length x.f1 := by
  obtain ⟨_, _, rfl, rfl, ⟨A1, c1, rfl, l1, g1⟩⟩ := h
  exact ⟨A1, c1, rfl, l1, g1⟩
theorem k36_openM {w : World} {base : Nat} {ok : Nat → Prop} {x : S36} {cs : List Value} (h : k36.M w base ok x cs) : ∃ v1, cs = [.int .i64 x.f0, v1] ∧ k28.R 28 w base ok v1 x.f1 := by
  obtain ⟨_, _, rfl, rfl, ⟨v1, rfl, g1⟩⟩ := h
  exact ⟨v1, rfl, g1⟩
theorem k36_mk (w : World) (x : S36) {A1 : Option Addr} {c1 : Nat} (l1 : x.f1.length ≤ c1) (g1 : k28.C w A1 x.f1.length x.f1) : k36.K w x [.int .i64 x.f0, .slice A1 x.f1.length c1] := ⟨[.int .i64 x.f0], [.slice A1 x.f1.length c1], rfl, rfl, ⟨A1, c1, rfl, l1, g1⟩⟩
theorem k36_mkM (w : World) (base : Nat) (ok : Nat → Prop) (x : S36) {v1 : Value} (g1 : k28.R 28 w base ok v1 x.f1) : k36.M w base ok x [.int .i64 x.f0, v1] := ⟨[.int .i64 x.f0], [v1], rfl, rfl, ⟨v1, rfl, g1⟩⟩
def rd_T36 (xs : List S36) (i : Int) : S36 := xs.getD i.toNat z36
theorem at_T36 {w : World} {A : Option Addr} {n : Nat} {xs : List S36} (h : Kd.C k36 w A n xs) (i : Int) (h0 : 0 ≤ i) (h1 : i < n) : ∃ ad A1 c1, A = some ad ∧ w.cell? (ad.add (i.toNat * 2)) = some (.int .i64 (rd_T36 xs i).f0) ∧ w.cell? ⟨(ad.add (i.toNat * 2)).block, (ad.add (i.toNat * 2)).off + 1, none⟩ = some (.slice A1 (rd_T36 xs i).f1.length c1) ∧ (rd_T36 xs i).f1.length ≤ c1 ∧ k28.C w A1 (rd_T36 xs i).f1.length (rd_T36 xs i).f1 := by
  obtain ⟨ad, c, e, _, hK, hc0⟩ := Kd.C_get h z36 i h0 h1
  have hc : ∀ j u, c[j]? = some u → w.cell? (ad.add (i.toNat * 2 + j)) = some u := hc0
  obtain ⟨A1, c1, rfl, l1, g1⟩ := k36_open hK
  exact ⟨ad, A1, c1, e, hc 0 _ rfl, by rw [← add_field _ _ 1 (by omega)]; exact hc 1 _ rfl, l1, g1⟩

theorem k28_openR {G : Gd} {x : S28} {cs : List Value} (h : RdK G k28 x cs) : ∃ A0 c0, cs = [.slice A0 x.f0.length c0, .int .i64 x.f1.f0, .int .i64 x.f1.f1, .int .i64 x.f1.f2, .int .i64 x.f1.f3] ∧ Rd G k30 A0 x.f0 ∧ x.f0.length ≤ c0 := by
  obtain ⟨A0, c0, rfl, l0, g0⟩ := k28_open (h G.W0 G.self)
  exact ⟨A0, c0, rfl, (fun W hW => by obtain ⟨A0', c0', he, l0', g0'⟩ := k28_open (h W hW); injection (Option.some.inj (congrArg (fun l => l[0]?) he)) with ha_ _ _; rw [ha_]; exact g0'), l0⟩
theorem k30_openR {G : Gd} {x : S30} {cs : List Value} (h : RdK G k30 x cs) : ∃ A5 c5, cs = [.int .i64 x.f0, .int .i64 x.f1, .int .i64 x.f2, .int .i64 x.f3, .int .i64 x.f4, .slice A5 x.f5.length c5] ∧ Rd G (Kd.int .i64) A5 x.f5 ∧ x.f5.length ≤ c5 := by
  obtain ⟨A5, c5, rfl, l5, g5⟩ := k30_open (h G.W0 G.self)
  exact ⟨A5, c5, rfl, (fun W hW => by obtain ⟨A5', c5', he, l5', g5'⟩ := k30_open (h W hW); injection (Option.some.inj (congrArg (fun l => l[5]?) he)) with ha_ _ _; rw [ha_]; exact g5'), l5⟩
theorem agg3 : aggB Try.prog 3 = some false := by kernel_rfl
theorem agg22 : aggB Try.prog 22 = some false := by kernel_rfl
theorem agg25 : aggB Try.prog 25 = some true := by kernel_rfl
theorem agg26 : aggB Try.prog 26 = some false := by kernel_rfl
theorem agg28 : aggB Try.prog 28 = some true := by kernel_rfl
theorem agg30 : aggB Try.prog 30 = some true := by kernel_rfl
theorem agg34 : aggB Try.prog 34 = some false := by kernel_rfl
theorem agg36 : aggB Try.prog 36 = some true := by kernel_rfl
theorem bld25 : (match Try.prog.underlying 25 with | some (.struct fs) => fs.toList.map (fun f => (Try.prog.info? f.type).map (·.size)) | _ => []) = [1, 1, 1, 1].map some := by kernel_rfl
theorem bld28 : (match Try.prog.underlying 28 with | some (.struct fs) => fs.toList.map (fun f => (Try.prog.info? f.type).map (·.size)) | _ => []) = [1, 4].map some := by kernel_rfl
theorem bld30 : (match Try.prog.underlying 30 with | some (.struct fs) => fs.toList.map (fun f => (Try.prog.info? f.type).map (·.size)) | _ => []) = [1, 1, 1, 1, 1, 1].map some := by kernel_rfl
theorem bld36 : (match Try.prog.underlying 36 with | some (.struct fs) => fs.toList.map (fun f => (Try.prog.info? f.type).map (·.size)) | _ => []) = [1, 1].map some := by kernel_rfl
theorem eqg25 : Try.prog.eqGuardType Try.prog.depth 25 = false := by kernel_rfl
theorem eqs25 (d : Nat) (w : World) (x0 y0 : Int) (x1 y1 : Int) (x2 y2 : Int) (x3 y3 : Int) : (Op.equalIn (d + 2) 25 (.agg #[.int .i64 x0, .int .i64 x1, .int .i64 x2, .int .i64 x3]) (.agg #[.int .i64 y0, .int .i64 y1, .int .i64 y2, .int .i64 y3])).run Try.prog w = .ok ((x0 == y0) && ((x1 == y1) && ((x2 == y2) && (x3 == y3)))) w := by
  refine fld_of Try.underlying25 (by kernel_rfl) ?_
  refine fld_cons (by rfl) (by go_simp; rfl) (by go_simp; rfl) (by go_simp) ?_
  refine fld_cons (by rfl) (by go_simp; rfl) (by go_simp; rfl) (by go_simp) ?_
  refine fld_cons (by rfl) (by go_simp; rfl) (by go_simp; rfl) (by go_simp) ?_
  exact fld_last (by rfl) (by go_simp; rfl) (by go_simp; rfl) (by go_simp)
theorem hb9 : hasBody Try.prog 9 = true := by kernel_rfl
theorem hb10 : hasBody Try.prog 10 = true := by kernel_rfl
theorem hb11 : hasBody Try.prog 11 = true := by kernel_rfl
theorem hb12 : hasBody Try.prog 12 = true := by kernel_rfl
theorem hb13 : hasBody Try.prog 13 = true := by kernel_rfl
theorem hb14 : hasBody Try.prog 14 = true := by kernel_rfl
theorem hb15 : hasBody Try.prog 15 = true := by kernel_rfl
theorem hb19 : hasBody Try.prog 19 = true := by kernel_rfl
theorem hb21 : hasBody Try.prog 21 = true := by kernel_rfl
theorem hb33 : hasBody Try.prog 33 = true := by kernel_rfl
theorem hb37 : hasBody Try.prog 37 = true := by kernel_rfl
theorem hb38 : hasBody Try.prog 38 = true := by kernel_rfl
theorem hb39 : hasBody Try.prog 39 = true := by kernel_rfl
theorem hb40 : hasBody Try.prog 40 = true := by kernel_rfl
theorem hb41 : hasBody Try.prog 41 = true := by kernel_rfl
theorem hb64 : hasBody Try.prog 64 = true := by kernel_rfl
theorem hb65 : hasBody Try.prog 65 = true := by kernel_rfl
theorem inf3 : (Try.prog.info? 3).map (fun i => (i.zero, i.size, i.bytes)) = some (some (.int .i64 0), 1, 8) := by kernel_rfl
theorem inf28 : (Try.prog.info? 28).map (fun i => (i.zero, i.size, i.bytes)) = some (some (.agg #[.slice none 0 0, .int .i64 0, .int .i64 0, .int .i64 0, .int .i64 0]), 5, 56) := by kernel_rfl
theorem inf30 : (Try.prog.info? 30).map (fun i => (i.zero, i.size, i.bytes)) = some (some (.agg #[.int .i64 0, .int .i64 0, .int .i64 0, .int .i64 0, .int .i64 0, .slice none 0 0]), 6, 64) := by kernel_rfl
theorem mixed : Try.prog.follows .mixedOrders = true := by kernel_rfl
theorem sz3 : (Try.prog.info? 3).map (·.size) = some 1 := by kernel_rfl
theorem sz22 : (Try.prog.info? 22).map (·.size) = some 1 := by kernel_rfl
theorem sz25 : (Try.prog.info? 25).map (·.size) = some 4 := by kernel_rfl
theorem sz26 : (Try.prog.info? 26).map (·.size) = some 1 := by kernel_rfl
theorem sz28 : (Try.prog.info? 28).map (·.size) = some 5 := by kernel_rfl
theorem sz30 : (Try.prog.info? 30).map (·.size) = some 6 := by kernel_rfl
theorem sz34 : (Try.prog.info? 34).map (·.size) = some 1 := by kernel_rfl
theorem sz36 : (Try.prog.info? 36).map (·.size) = some 2 := by kernel_rfl
theorem zr25 : (Try.prog.info? 25).bind (·.zero) = some (.agg #[.int .i64 0, .int .i64 0, .int .i64 0, .int .i64 0]) := by kernel_rfl
theorem zr28 : (Try.prog.info? 28).bind (·.zero) = some (.agg #[.slice none 0 0, .int .i64 0, .int .i64 0, .int .i64 0, .int .i64 0]) := by kernel_rfl
theorem zr30 : (Try.prog.info? 30).bind (·.zero) = some (.agg #[.int .i64 0, .int .i64 0, .int .i64 0, .int .i64 0, .int .i64 0, .slice none 0 0]) := by kernel_rfl
theorem zr36 : (Try.prog.info? 36).bind (·.zero) = some (.agg #[.int .i64 0, .slice none 0 0]) := by kernel_rfl
theorem zs3 : (Try.prog.info? 3).map (fun i => (i.zero, i.size)) = some (some (.int .i64 0), 1) := by kernel_rfl
theorem zs28 : (Try.prog.info? 28).map (fun i => (i.zero, i.size)) = some (some (.agg #[.slice none 0 0, .int .i64 0, .int .i64 0, .int .i64 0, .int .i64 0]), 5) := by kernel_rfl
theorem zs30 : (Try.prog.info? 30).map (fun i => (i.zero, i.size)) = some (some (.agg #[.int .i64 0, .int .i64 0, .int .i64 0, .int .i64 0, .int .i64 0, .slice none 0 0]), 6) := by kernel_rfl
end Go.Proofs.Ytmacdhkfgoahcaa.Sx
set_option linter.unusedVariables false
set_option linter.unusedSimpArgs false
set_option maxRecDepth 100000
set_option maxHeartbeats 4000000
namespace Go.Proofs.Ytmacdhkfgoahcaa.Sx
open Go Go.RowKit Go.Proofs.YtmacdhkfgoahcaaW.PrintWords Go.Proofs.Ytmacdhkfgoahcaa.Q
def slices_Clone_int_int.f (a0 : (List Int)) : Option (List Int) := (if ([] : List Int).length + a0.length ≤ 17592186044416 then some (([] : List Int) ++ a0) else none)
def slices_Clone_int_int.post (G : Gd) (r : (List Int)) (v : Value) (G' : Gd) (Lr : List Ch) : Prop := G = G' ∧ ∃ (A_1 : Option Addr) (c_1 : Nat), v = .slice A_1 r.length c_1 ∧ Lr = [Row (Kd.int .i64) 3 (.slice A_1 r.length c_1) r]
theorem slices_Clone_int_int.calls {G : Gd} {r : (List Int)} {a0 : (List Int)} {A1 : Option Addr} {c2 : Nat} (hr3 : Rd G (Kd.int .i64) A1 a0) (hl4 : a0.length ≤ c2) (h : slices_Clone_int_int.f a0 = some r) : Fn Try.prog 37 G [] [.slice A1 a0.length c2] (slices_Clone_int_int.post G r) := by
  refine Fn.intro Try.func37 rfl Try.ntmps37 rfl (Nat.le_of_ble_eq_true rfl) (fun L => ?_)
  unfold slices_Clone_int_int.f at h
  refine TC.seq ?_
  refine TC.region ?_
  refine TL.cons (TO.val rfl rfl rfl (Val.assign rfl) ?_)
  refine TL.nil ?_
  refine TQ.then_ ?_
  refine TC.seq ?_
  refine TC.seq ?_
  refine TC.region ?_
  refine TL.cons (TO.val rfl rfl rfl (Val.move rfl) ?_)
  refine TL.cons (TO.val rfl rfl rfl (Val.eqNil Try.underlying22 rfl) ?_)
  refine TL.nil ?_
  refine TQ.then_ ?_
  refine TC.cond rfl (fun hc7 => ?_) (fun hc7 => ?_)
  · have hn := Rd.nilEq hr3 hc7
    have h : some ([] : List Int) = some r := by first | (simpa [hn] using h) | (simp [hn] at h; simp [h, hn])
    refine TC.seq ?_
    refine TC.region ?_
    refine TL.cons (TO.val rfl rfl rfl (Val.assign rfl) ?_)
    refine TL.nil ?_
    refine TQ.then_ ?_
    refine TC.ret ?_
    refine TQ.thenR ?_
    refine TQ.nilRow (Kd.int .i64) 3 ?_
    obtain rfl := Option.some.inj h
    exact TQ.done (Ls := [Row (Kd.int .i64) 3 (.slice none 0 0) ([] : List Int)]) (.inl rfl) [0] 1 Try.results37 (.tmp rfl .nil) rfl (Gd.le.refl _) rfl rfl rfl ⟨rfl, none, 0, rfl, rfl⟩
  · refine TC.skip ?_
    refine TQ.then_ ?_
    refine TC.seq ?_
    refine TC.region ?_
    refine TL.cons (TL.buildSlice0 (Kd.int .i64) rfl rfl Try.underlying22 zs3 (fun b9 => ?_))
    refine TL.cons (TO.val rfl rfl rfl (Val.move rfl) ?_)
    obtain ⟨ha11, h⟩ := ite_no h
    refine TL.cons (TL.appendR (xs := ([] : List Int)) (ys := a0) (Kd.int .i64) (Kd.int .i64) rfl rfl Try.underlying22 inf3 rfl (Nat.le_of_ble_eq_true rfl) (Nat.le_of_ble_eq_true rfl) rfl rfl (by omega) hr3 rfl (fun _ _ _ _ _ h => h) (fun A12 c13 => ?_))
    refine TL.cons (TO.val rfl rfl rfl (Val.assign rfl) ?_)
    refine TL.nil ?_
    refine TQ.then_ ?_
    refine TC.ret ?_
    obtain rfl := Option.some.inj h
    exact TQ.done (Ls := [Row (Kd.int .i64) 3 (.slice A12 (([] : List Int) ++ a0).length c13) (([] : List Int) ++ a0)]) (.inl rfl) [0] 1 Try.results37 (.tmp rfl .nil) rfl (Gd.le.refl _) rfl rfl rfl ⟨rfl, A12, c13, rfl, rfl⟩
end Go.Proofs.Ytmacdhkfgoahcaa.Sx
set_option linter.unusedVariables false
set_option linter.unusedSimpArgs false
set_option maxRecDepth 100000
set_option maxHeartbeats 4000000
namespace Go.Proofs.Ytmacdhkfgoahcaa.Sx
open Go Go.RowKit Go.Proofs.YtmacdhkfgoahcaaW.PrintWords Go.Proofs.Ytmacdhkfgoahcaa.Q
def slices_Delete_api_Op_api_Op.f (a0 : List S30) (a1 a2 : Int) : Option (List S30) := if 0 ≤ a1 ∧ a1 ≤ a2 ∧ a2 ≤ (a0.length : Int) then some (a0.take a1.toNat ++ a0.drop a2.toNat) else none
def slices_Delete_api_Op_api_Op.post (G : Gd) (r : List S30) (v : Value) (G' : Gd) (Lr : List Ch) : Prop := G = G' ∧ ∃ (A_1 : Option Addr) (c_1 : Nat), v = .slice A_1 r.length c_1 ∧ Lr = [Row k30 30 (.slice A_1 r.length c_1) r]
theorem slices_Delete_api_Op_api_Op.calls {G : Gd} {r a0 : List S30} {a1 a2 : Int} {A1 : Option Addr} {c2 : Nat} (h : slices_Delete_api_Op_api_Op.f a0 a1 a2 = some r) : Fn Try.prog 38 G [Row k30 30 (.slice A1 a0.length c2) a0] [.slice A1 a0.length c2, .int .i64 a1, .int .i64 a2] (slices_Delete_api_Op_api_Op.post G r) := by
  refine Fn.intro Try.func38 rfl Try.ntmps38 rfl (Nat.le_of_ble_eq_true rfl) (fun L => ?_)
  unfold slices_Delete_api_Op_api_Op.f at h
  obtain ⟨⟨h0, h1, h2⟩, h⟩ := ite_no h
  refine TC.rowle 0 rfl (fun hle hmax hA => ?_)
  refine TC.seq ?_
  refine TC.region ?_
  refine TL.cons (TO.val rfl rfl rfl (Val.assign rfl) ?_)
  refine TL.nil ?_
  refine TQ.then_ ?_
  refine TC.seq ?_
  refine TC.region ?_
  refine TL.cons (TO.val rfl rfl rfl (Val.move rfl) ?_)
  refine TL.cons (TO.val rfl rfl rfl (Val.move rfl) ?_)
  refine TL.cons (TO.val rfl rfl rfl (Val.move rfl) ?_)
  refine TL.cons (TO.val rfl rfl rfl (Val.move rfl) ?_)
  refine TL.cons (TO.val rfl rfl rfl (Val.len Try.underlying26 rfl) ?_)
  refine TL.cons (TO.valE rfl rfl rfl (Val.cut3 Try.underlying26 sz30 rfl rfl rfl rfl h0 h1 h2 (by omega)) (fun v3 => ?_))
  refine TL.nil ?_
  refine TQ.then_ ?_
  refine TC.seq ?_
  refine TC.seq ?_
  refine TC.region ?_
  refine TL.cons (TO.val rfl rfl rfl (Val.move rfl) ?_)
  refine TL.cons (TO.val rfl rfl rfl (Val.move rfl) ?_)
  refine TL.cons (TO.val rfl rfl rfl (Val.cmp rfl rfl run_eql) ?_)
  refine TL.nil ?_
  refine TQ.then_ ?_
  refine TC.cond rfl (fun hc => ?_) (fun hc => ?_)
  · have hc := of_decide_eq_true hc
    subst hc
    have hr : a0 = r := by rw [← Option.some.inj h, List.take_append_drop]
    subst hr
    refine TC.seq ?_
    refine TC.region ?_
    refine TL.cons (TO.val rfl rfl rfl (Val.move rfl) ?_)
    refine TL.cons (TO.val rfl rfl rfl (Val.assign rfl) ?_)
    refine TL.nil ?_
    refine TQ.then_ ?_
    refine TC.ret ?_
    refine TQ.thenR ?_
    exact TQ.done (Ls := [Row k30 30 (.slice A1 a0.length c2) a0]) (.inl rfl) [0] 1 Try.results38 (.tmp rfl .nil) rfl (Gd.le.refl _) rfl rfl rfl ⟨rfl, _, _, rfl, rfl⟩
  · have h := Option.some.inj h
    subst h
    have hlen : (a0.take a1.toNat ++ a0.drop a2.toNat).length = a1.toNat + (a0.length - a2.toNat) := by rw [List.length_append, List.length_take, List.length_drop]; omega
    refine TC.skip ?_
    refine TQ.then_ ?_
    refine TC.seq ?_
    refine TC.region ?_
    refine TL.cons (TO.val rfl rfl rfl (Val.move rfl) ?_)
    refine TL.cons (TO.val rfl rfl rfl (Val.len Try.underlying26 rfl) ?_)
    refine TL.cons (TO.val rfl rfl rfl (Val.assign rfl) ?_)
    refine TL.nil ?_
    refine TQ.then_ ?_
    refine TC.seq ?_
    refine TC.regionAny [6, 7] mixed ?_
    refine TA.take 0 rfl (by kernel_rfl) rfl (PQ.then_ PQ.body) rfl (Val.move rfl) (fun W hO => hO) ?_
    refine TA.take 1 rfl (by kernel_rfl) rfl (PQ.then_ PQ.body) rfl (Val.move rfl) (fun W hO => hO) ?_
    refine TA.take 2 rfl (by kernel_rfl) rfl (PQ.then_ PQ.body) rfl (Val.cutC (l := 0) Try.underlying26 sz30 rfl rfl rfl (by omega) h0 (by omega)) (fun W hO => hO) ?_
    refine TA.take 3 rfl (by kernel_rfl) rfl (PQ.then_ PQ.body) rfl (Val.move rfl) (fun W hO => hO) ?_
    refine TA.take 4 rfl (by kernel_rfl) rfl (PQ.then_ PQ.body) rfl (Val.move rfl) (fun W hO => hO) ?_
    refine TA.take 5 rfl (by kernel_rfl) rfl (PQ.then_ PQ.body) rfl (Val.cutC Try.underlying26 sz30 rfl rfl rfl (by omega) h2 (by omega)) (fun W hO => hO) ?_
    refine TA.eff 6 rfl (by kernel_rfl) rfl (TL.cutAppend k30 (i := a1.toNat) (j := a2.toNat) (m := a0.length - a2.toNat) rfl rfl Try.underlying26 sz30 (Nat.le_of_ble_eq_true rfl) rfl rfl rfl (by omega) (by omega) rfl ?_)
    refine TA.last rfl ?_
    refine TA.eff 7 rfl (by kernel_rfl) rfl (TO.val rfl rfl rfl (Val.assign rfl) ?_)
    refine TA.last rfl ?_
    refine TA.done (by kernel_rfl) ?_
    refine TQ.then_ ?_
    refine TC.seq ?_
    refine TC.region ?_
    refine TL.cons (TO.val rfl rfl rfl (Val.move rfl) ?_)
    refine TL.cons (TO.val rfl rfl rfl (Val.move rfl) ?_)
    refine TL.cons (TO.val rfl rfl rfl (Val.len Try.underlying26 rfl) ?_)
    refine TL.cons (TO.val rfl rfl rfl (Val.move rfl) ?_)
    refine TL.cons (TO.val rfl rfl rfl (Val.cutC Try.underlying26 sz30 rfl rfl rfl (by omega) (by omega) (by omega)) ?_)
    refine TL.cons (TL.clearTail k30 rfl Try.underlying26 zs30 rfl rfl (Nat.le_of_ble_eq_true rfl) rfl (by omega) (by omega) ?_)
    refine TL.nil ?_
    refine TQ.then_ ?_
    refine TC.seq ?_
    refine TC.region ?_
    refine TL.cons (TO.val rfl rfl rfl (Val.move rfl) ?_)
    refine TL.cons (TO.val rfl rfl rfl (Val.assign rfl) ?_)
    refine TL.nil ?_
    refine TQ.then_ ?_
    refine TC.ret ?_
    exact TQ.done (Ls := [_]) (.inl rfl) [0] 1 Try.results38 (.tmp rfl .nil) rfl (Gd.le.refl _) rfl rfl rfl ⟨rfl, _, _, rfl, rfl⟩
end Go.Proofs.Ytmacdhkfgoahcaa.Sx
set_option linter.unusedVariables false
set_option linter.unusedSimpArgs false
set_option maxRecDepth 100000
set_option maxHeartbeats 4000000
namespace Go.Proofs.Ytmacdhkfgoahcaa.Sx
open Go Go.RowKit Go.Proofs.YtmacdhkfgoahcaaW.PrintWords Go.Proofs.Ytmacdhkfgoahcaa.Q
def deadstore_Block.l1 (a0 : S28) : Nat → (List S30) → Option S28
  | 0, _ => none
  | n498 + 1, l387 => (deadstore_Dead.f (⟨l387, a0.f1⟩ : S28)).bind fun (y558 : (List Int)) => (if (y558.length : Int) = 0 then some (⟨l387, a0.f1⟩ : S28) else (at? y558 0).bind fun y591 => (slices_Delete_api_Op_api_Op.f l387 y591 (IntKind.i64.wrap (y591 + 1))).bind fun (y600 : (List S30)) => deadstore_Block.l1 a0 n498 y600)
def deadstore_Block.l0 (a0 : S28) : Nat → Int → (List S30) → Option ((List S30))
  | 0, _, _ => none
  | n169 + 1, x111, l112 => (if x111 < (a0.f0.length : Int) then (at? a0.f0 x111).bind fun y630 => (slices_Clone_int_int.f y630.f5).bind fun (y644 : (List Int)) => (if l112.length < 2199023255552 then deadstore_Block.l0 a0 n169 (IntKind.i64.wrap (x111 + 1)) (l112 ++ [(⟨y630.f0, y630.f1, y630.f2, y630.f3, y630.f4, y644⟩ : S30)]) else none) else some l112)
def deadstore_Block.f (a0 : S28) : Option S28 := (deadstore_Block.l0 a0 (a0.f0.length + 1) 0 []).bind fun (l164 : (List S30)) => (deadstore_Block.l1 a0 (a0.f0.length + 1) l164).bind fun q_ => some q_
def deadstore_Block.post (G : Gd) (r : S28) (v : Value) (G' : Gd) (Lr : List Ch) : Prop := G = G' ∧ ∃ (A_1 : Option Addr) (c_1 : Nat), v = .agg #[.slice A_1 r.f0.length c_1, .int .i64 r.f1.f0, .int .i64 r.f1.f1, .int .i64 r.f1.f2, .int .i64 r.f1.f3] ∧ Lr = [Row k30 30 (.slice A_1 r.f0.length c_1) r.f0]
theorem deadstore_Block.calls {G : Gd} {r : S28} {a0 : S28} {A1 : Option Addr} {c2 : Nat} (hr3 : Rd G k30 A1 a0.f0) (hl4 : a0.f0.length ≤ c2) (h : deadstore_Block.f a0 = some r) : Fn Try.prog 11 G [] [.agg #[.slice A1 a0.f0.length c2, .int .i64 a0.f1.f0, .int .i64 a0.f1.f1, .int .i64 a0.f1.f2, .int .i64 a0.f1.f3]] (deadstore_Block.post G r) := by
  refine Fn.intro Try.func11 rfl Try.ntmps11 rfl (Nat.le_of_ble_eq_true rfl) (fun L => ?_)
  unfold deadstore_Block.f at h
  refine TC.seq ?_
  refine TC.region ?_
  refine TL.cons (TL.box (cs := [.slice A1 a0.f0.length c2, .int .i64 a0.f1.f0, .int .i64 a0.f1.f1, .int .i64 a0.f1.f2, .int .i64 a0.f1.f3]) rfl rfl rfl rfl (fun b5 => ?_))
  refine TL.cons (TL.alloc (cs := [.slice none 0 0, .int .i64 0, .int .i64 0, .int .i64 0, .int .i64 0]) rfl rfl zr28 rfl (fun b6 => ?_))
  refine TL.nil ?_
  refine TQ.then_ ?_
  refine TC.seq ?_
  refine TC.region ?_
  refine TL.cons (TO.val rfl rfl rfl (Val.fieldAddrB Try.underlying28 rfl sz25 rfl rfl rfl) ?_)
  refine TL.cons (TO.val rfl rfl rfl (Val.loadsB 1 (cs := [.int .i64 a0.f1.f0, .int .i64 a0.f1.f1, .int .i64 a0.f1.f2, .int .i64 a0.f1.f3]) agg25 sz25 rfl rfl rfl rfl) ?_)
  refine TL.cons (TO.val rfl rfl rfl (Val.build (cs := [.slice none 0 0, .int .i64 a0.f1.f0, .int .i64 a0.f1.f1, .int .i64 a0.f1.f2, .int .i64 a0.f1.f3]) (is := [1]) (xs := [.tmp 8]) Try.underlying28 zr28 bld28 rfl rfl rfl rfl) ?_)
  refine TL.cons (TL.alloc (cs := [.slice none 0 0, .int .i64 0, .int .i64 0, .int .i64 0, .int .i64 0]) rfl rfl zr28 rfl (fun b7 => ?_))
  refine TL.cons (TL.store 0 (ds := [.slice none 0 0, .int .i64 a0.f1.f0, .int .i64 a0.f1.f1, .int .i64 a0.f1.f2, .int .i64 a0.f1.f3]) (cs' := [.slice none 0 0, .int .i64 a0.f1.f0, .int .i64 a0.f1.f1, .int .i64 a0.f1.f2, .int .i64 a0.f1.f3]) (L' := (Blk b7 [.slice none 0 0, .int .i64 a0.f1.f0, .int .i64 a0.f1.f1, .int .i64 a0.f1.f2, .int .i64 a0.f1.f3] 28 :: Blk b6 [.slice none 0 0, .int .i64 0, .int .i64 0, .int .i64 0, .int .i64 0] 28 :: Blk b5 [.slice A1 a0.f0.length c2, .int .i64 a0.f1.f0, .int .i64 a0.f1.f1, .int .i64 a0.f1.f2, .int .i64 a0.f1.f3] 28 :: L)) rfl sz28 rfl rfl rfl rfl rfl (Nat.le_of_ble_eq_true rfl) rfl rfl ?_)
  refine TL.nil ?_
  refine TQ.then_ ?_
  refine TC.seq ?_
  refine TC.seq ?_
  refine TC.region ?_
  refine TL.cons (TO.val rfl rfl rfl (Val.fieldAddrB Try.underlying28 rfl sz26 rfl rfl rfl) ?_)
  refine TL.cons (TO.val rfl rfl rfl (Val.loadB 2 agg26 rfl rfl rfl) ?_)
  refine TL.cons (TO.val rfl rfl rfl (Val.len Try.underlying26 rfl) ?_)
  refine TL.cons (TO.val rfl rfl rfl (Val.move rfl) ?_)
  refine TL.nil ?_
  refine TQ.then_ ?_
  obtain ⟨o168, ho168, ko168⟩ := bind_no h
  clear h
  refine TC.tail (fun a W => ∃ (l164 : (List S30)) (A165 : Option Addr) (c166 : Nat), l164 = o168 ∧ Fr 45 a [(2, .pointer (some ⟨b6, 0, none⟩)), (3, .pointer (some ⟨b7, 0, none⟩))] ∧ Own G (Blk b6 [.slice none 0 0, .int .i64 0, .int .i64 0, .int .i64 0, .int .i64 0] 28 :: Blk b7 [.slice A165 l164.length c166, .int .i64 a0.f1.f0, .int .i64 a0.f1.f1, .int .i64 a0.f1.f2, .int .i64 a0.f1.f3] 28 :: Row k30 30 (.slice A165 l164.length c166) l164 :: L) W) ?_ ?_
  · rintro a W ⟨l164, A165, c166, rfl, hF, hO⟩
    have h := ko168
    clear ko168 ho168
    refine TQ.use ?_ hF hO
    clear hF hO
    refine TQ.then_ ?_
    obtain ⟨o497, ho497, ko497⟩ := bind_no h
    clear h
    refine TC.tail (fun a W => False) (fun a W h => h.elim) ?_
    · refine TC.block ?_
      intro a W hF hO
      have hS : ∃ (l387 : (List S30)) (A388 : Option Addr) (c389 : Nat), deadstore_Block.l1 a0 (a0.f0.length + 1) l387 = some o497 ∧ Fr 45 a [(2, .pointer (some ⟨b6, 0, none⟩)), (3, .pointer (some ⟨b7, 0, none⟩))] ∧ Own G (Blk b6 [.slice none 0 0, .int .i64 0, .int .i64 0, .int .i64 0, .int .i64 0] 28 :: Blk b7 [.slice A388 l387.length c389, .int .i64 a0.f1.f0, .int .i64 a0.f1.f1, .int .i64 a0.f1.f2, .int .i64 a0.f1.f3] 28 :: Row k30 30 (.slice A388 l387.length c389) l387 :: L) W := by
        exact ⟨l164, A165, c166, ho497, hF.sub ⟨rfl, rfl, trivial⟩, hO.selT (Ls := [Blk b6 [.slice none 0 0, .int .i64 0, .int .i64 0, .int .i64 0, .int .i64 0] 28, Blk b7 [.slice A165 l164.length c166, .int .i64 a0.f1.f0, .int .i64 a0.f1.f1, .int .i64 a0.f1.f2, .int .i64 a0.f1.f3] 28, Row k30 30 (.slice A165 l164.length c166) l164]) [0, 1, 2] 3 rfl rfl rfl⟩
      clear hF hO ho497
      refine TC.loop (fun n498 a W => ∃ (l387 : (List S30)) (A388 : Option Addr) (c389 : Nat), deadstore_Block.l1 a0 n498 l387 = some o497 ∧ Fr 45 a [(2, .pointer (some ⟨b6, 0, none⟩)), (3, .pointer (some ⟨b7, 0, none⟩))] ∧ Own G (Blk b6 [.slice none 0 0, .int .i64 0, .int .i64 0, .int .i64 0, .int .i64 0] 28 :: Blk b7 [.slice A388 l387.length c389, .int .i64 a0.f1.f0, .int .i64 a0.f1.f1, .int .i64 a0.f1.f2, .int .i64 a0.f1.f3] 28 :: Row k30 30 (.slice A388 l387.length c389) l387 :: L) W) ?_ ?_ hS
      · rintro a W ⟨l387, A388, c389, h, hF, hO⟩
        exact none_no h
      · clear hS
        rintro n498 a W ⟨l387, A388, c389, h, hF, hO⟩
        rw [deadstore_Block.l1] at h
        refine TC.use ?_ hF hO
        clear hF hO
        refine TC.block ?_
        refine TC.seq ?_
        refine TC.region ?_
        refine TL.cons (TO.val rfl rfl rfl (Val.loadsB 1 (cs := [.slice A388 l387.length c389, .int .i64 a0.f1.f0, .int .i64 a0.f1.f1, .int .i64 a0.f1.f2, .int .i64 a0.f1.f3]) agg28 sz28 rfl rfl rfl rfl) ?_)
        refine TK.sel (Ls := [Row k30 30 (.slice A388 l387.length c389) l387, Blk b6 [.slice none 0 0, .int .i64 0, .int .i64 0, .int .i64 0, .int .i64 0] 28, Blk b7 [.slice A388 l387.length c389, .int .i64 a0.f1.f0, .int .i64 a0.f1.f1, .int .i64 a0.f1.f2, .int .i64 a0.f1.f3] 28]) [2, 0, 1] 3 rfl rfl rfl ?_
        refine TK.share (fun G552 e553 hs554 hb555 => ?_)
        have rd556 : Rd G552 k30 A388 l387 := Rd.row hs554
        have le557 : l387.length ≤ c389 := Row.le hs554
        obtain ⟨y558, hy559, h⟩ := bind_no h
        refine TL.cons (TL.callV (Lin := []) (args := [.agg #[.slice A388 l387.length c389, .int .i64 a0.f1.f0, .int .i64 a0.f1.f1, .int .i64 a0.f1.f2, .int .i64 a0.f1.f3]]) rfl rfl rfl hb10 rfl rfl (deadstore_Dead.calls (a0 := (⟨l387, a0.f1⟩ : S28)) rd556 le557 hy559) rfl ?_)
        rintro _ _ _ _ ⟨rfl, A560, c561, rfl, rfl⟩
        refine TL.cons (TO.val rfl rfl rfl (Val.assign rfl) ?_)
        refine TL.nil ?_
        refine TQ.then_ ?_
        refine TC.seq ?_
        refine TC.seq ?_
        refine TC.region ?_
        refine TL.cons (TO.val rfl rfl rfl (Val.move rfl) ?_)
        refine TL.cons (TO.val rfl rfl rfl (Val.len Try.underlying22 rfl) ?_)
        refine TL.cons (TO.val rfl rfl rfl (Val.cmp rfl rfl run_eql) ?_)
        refine TL.nil ?_
        refine TQ.then_ ?_
        refine TC.back hb555 ?_
        refine TC.cond_p rfl h (fun hc564 h => ?_) (fun hc564 h => ?_)
        · refine TC.seq ?_
          refine TC.region ?_
          refine TL.cons (TO.val rfl rfl rfl (Val.loadsB 3 (cs := [.slice A388 l387.length c389, .int .i64 a0.f1.f0, .int .i64 a0.f1.f1, .int .i64 a0.f1.f2, .int .i64 a0.f1.f3]) agg28 sz28 rfl rfl rfl rfl) ?_)
          refine TL.cons (TL.store 2 (ds := [.slice A388 l387.length c389, .int .i64 a0.f1.f0, .int .i64 a0.f1.f1, .int .i64 a0.f1.f2, .int .i64 a0.f1.f3]) (cs' := [.slice A388 l387.length c389, .int .i64 a0.f1.f0, .int .i64 a0.f1.f1, .int .i64 a0.f1.f2, .int .i64 a0.f1.f3]) (L' := (Row k30 30 (.slice A388 l387.length c389) l387 :: Row (Kd.int .i64) 3 (.slice A560 y558.length c561) y558 :: Blk b6 [.slice A388 l387.length c389, .int .i64 a0.f1.f0, .int .i64 a0.f1.f1, .int .i64 a0.f1.f2, .int .i64 a0.f1.f3] 28 :: Blk b7 [.slice A388 l387.length c389, .int .i64 a0.f1.f0, .int .i64 a0.f1.f1, .int .i64 a0.f1.f2, .int .i64 a0.f1.f3] 28 :: L)) rfl sz28 rfl rfl rfl rfl rfl (Nat.le_of_ble_eq_true rfl) rfl rfl ?_)
          refine TL.nil ?_
          refine TQ.then_ ?_
          refine TC.ret ?_
          refine TQ.thenR ?_
          refine TQ.inBR ?_
          refine TQ.thenR ?_
          refine TQ.inBR ?_
          refine TQ.thenR ?_
          obtain rfl := Option.some.inj h
          have h := ko497
          obtain rfl := Option.some.inj h
          exact TQ.done (Ls := [Row k30 30 (.slice A388 l387.length c389) l387]) (.inl rfl) [0] 4 Try.results11 (.cells 2 rfl rfl agg28 sz28 .nil) rfl (Gd.le.refl _) rfl rfl rfl ⟨rfl, A388, c389, rfl, rfl⟩
        · refine TC.skip ?_
          refine TQ.then_ ?_
          refine TC.sel (Ls := [Row (Kd.int .i64) 3 (.slice A560 y558.length c561) y558, Row k30 30 (.slice A388 l387.length c389) l387, Blk b6 [.slice none 0 0, .int .i64 0, .int .i64 0, .int .i64 0, .int .i64 0] 28, Blk b7 [.slice A388 l387.length c389, .int .i64 a0.f1.f0, .int .i64 a0.f1.f1, .int .i64 a0.f1.f2, .int .i64 a0.f1.f3] 28]) [1, 0, 2, 3] 4 rfl rfl rfl ?_
          refine TC.share (fun G585 e586 hs587 hb588 => ?_)
          have rd589 : Rd G585 (Kd.int .i64) A560 y558 := Rd.row hs587
          have le590 : y558.length ≤ c561 := Row.le hs587
          refine TC.regionAnyS (L0 := (Blk b6 [.slice none 0 0, .int .i64 0, .int .i64 0, .int .i64 0, .int .i64 0] 28 :: Blk b7 [.slice A388 l387.length c389, .int .i64 a0.f1.f0, .int .i64 a0.f1.f1, .int .i64 a0.f1.f2, .int .i64 a0.f1.f3] 28 :: L)) [9, 10, 11] mixed ?_
          refine TA.take 0 rfl (by kernel_rfl) rfl (PQ.inB (PQ.then_ (PQ.inB (PQ.then_ PQ.body)))) rfl (Val.fieldAddrB Try.underlying28 rfl sz26 rfl rfl rfl) (fun W hO => hO.selT (Ls := [Blk b6 [.slice none 0 0, .int .i64 0, .int .i64 0, .int .i64 0, .int .i64 0] 28, Blk b7 [.slice A388 l387.length c389, .int .i64 a0.f1.f0, .int .i64 a0.f1.f1, .int .i64 a0.f1.f2, .int .i64 a0.f1.f3] 28]) [1, 2] 3 rfl rfl rfl) ?_
          refine TA.take 1 rfl (by kernel_rfl) rfl (PQ.inB (PQ.then_ (PQ.inB (PQ.then_ PQ.body)))) rfl (Val.loadB 1 agg26 rfl rfl rfl) (fun W hO => hO.selT (Ls := [Blk b6 [.slice none 0 0, .int .i64 0, .int .i64 0, .int .i64 0, .int .i64 0] 28, Blk b7 [.slice A388 l387.length c389, .int .i64 a0.f1.f0, .int .i64 a0.f1.f1, .int .i64 a0.f1.f2, .int .i64 a0.f1.f3] 28]) [1, 2] 3 rfl rfl rfl) ?_
          refine TA.take 2 rfl (by kernel_rfl) rfl (PQ.inB (PQ.then_ (PQ.inB (PQ.then_ PQ.body)))) rfl (Val.move rfl) (fun W hO => hO.selT (Ls := [Blk b6 [.slice none 0 0, .int .i64 0, .int .i64 0, .int .i64 0, .int .i64 0] 28, Blk b7 [.slice A388 l387.length c389, .int .i64 a0.f1.f0, .int .i64 a0.f1.f1, .int .i64 a0.f1.f2, .int .i64 a0.f1.f3] 28]) [1, 2] 3 rfl rfl rfl) ?_
          obtain ⟨y591, hx592, h⟩ := bind_no h
          obtain ⟨ad593, cs599, hA594, hi595, hj596, hcl597, hK598⟩ := Rd.at rd589 hx592
          obtain rfl := RdK.int hK598
          refine TA.take 3 rfl (by kernel_rfl) rfl (PQ.inB (PQ.then_ (PQ.inB (PQ.then_ PQ.body)))) rfl (Val.indexAddr Try.underlying22 sz3 rfl hA594 rfl hi595 hj596) (fun W hO => hO.selT (Ls := [Blk b6 [.slice none 0 0, .int .i64 0, .int .i64 0, .int .i64 0, .int .i64 0] 28, Blk b7 [.slice A388 l387.length c389, .int .i64 a0.f1.f0, .int .i64 a0.f1.f1, .int .i64 a0.f1.f2, .int .i64 a0.f1.f3] 28]) [1, 2] 3 rfl rfl rfl) ?_
          refine TA.take 4 rfl (by kernel_rfl) rfl (PQ.inB (PQ.then_ (PQ.inB (PQ.then_ PQ.body)))) rfl (Val.loadS agg3 rfl (hcl597 0 _ rfl)) (fun W hO => hO.selT (Ls := [Blk b6 [.slice none 0 0, .int .i64 0, .int .i64 0, .int .i64 0, .int .i64 0] 28, Blk b7 [.slice A388 l387.length c389, .int .i64 a0.f1.f0, .int .i64 a0.f1.f1, .int .i64 a0.f1.f2, .int .i64 a0.f1.f3] 28]) [1, 2] 3 rfl rfl rfl) ?_
          refine TA.take 5 rfl (by kernel_rfl) rfl (PQ.inB (PQ.then_ (PQ.inB (PQ.then_ PQ.body)))) rfl (Val.move rfl) (fun W hO => hO.selT (Ls := [Blk b6 [.slice none 0 0, .int .i64 0, .int .i64 0, .int .i64 0, .int .i64 0] 28, Blk b7 [.slice A388 l387.length c389, .int .i64 a0.f1.f0, .int .i64 a0.f1.f1, .int .i64 a0.f1.f2, .int .i64 a0.f1.f3] 28]) [1, 2] 3 rfl rfl rfl) ?_
          refine TA.take 6 rfl (by kernel_rfl) rfl (PQ.inB (PQ.then_ (PQ.inB (PQ.then_ PQ.body)))) rfl (Val.indexAddr Try.underlying22 sz3 rfl hA594 rfl hi595 hj596) (fun W hO => hO.selT (Ls := [Blk b6 [.slice none 0 0, .int .i64 0, .int .i64 0, .int .i64 0, .int .i64 0] 28, Blk b7 [.slice A388 l387.length c389, .int .i64 a0.f1.f0, .int .i64 a0.f1.f1, .int .i64 a0.f1.f2, .int .i64 a0.f1.f3] 28]) [1, 2] 3 rfl rfl rfl) ?_
          refine TA.take 7 rfl (by kernel_rfl) rfl (PQ.inB (PQ.then_ (PQ.inB (PQ.then_ PQ.body)))) rfl (Val.loadS agg3 rfl (hcl597 0 _ rfl)) (fun W hO => hO.selT (Ls := [Blk b6 [.slice none 0 0, .int .i64 0, .int .i64 0, .int .i64 0, .int .i64 0] 28, Blk b7 [.slice A388 l387.length c389, .int .i64 a0.f1.f0, .int .i64 a0.f1.f1, .int .i64 a0.f1.f2, .int .i64 a0.f1.f3] 28]) [1, 2] 3 rfl rfl rfl) ?_
          refine TA.take 8 rfl (by kernel_rfl) rfl (PQ.inB (PQ.then_ (PQ.inB (PQ.then_ PQ.body)))) rfl (Val.cmp rfl rfl run_add) (fun W hO => hO.selT (Ls := [Blk b6 [.slice none 0 0, .int .i64 0, .int .i64 0, .int .i64 0, .int .i64 0] 28, Blk b7 [.slice A388 l387.length c389, .int .i64 a0.f1.f0, .int .i64 a0.f1.f1, .int .i64 a0.f1.f2, .int .i64 a0.f1.f3] 28]) [1, 2] 3 rfl rfl rfl) ?_
          obtain ⟨y600, hy601, h⟩ := bind_no h
          refine TA.eff 9 rfl (by kernel_rfl) rfl (TL.callV (Lin := [Row k30 30 (.slice A388 l387.length c389) l387]) (args := [.slice A388 l387.length c389, .int .i64 y591, .int .i64 (IntKind.i64.wrap (y591 + 1))]) rfl rfl rfl hb38 rfl rfl (slices_Delete_api_Op_api_Op.calls (a0 := l387) (a1 := y591) (a2 := IntKind.i64.wrap (y591 + 1)) hy601) rfl ?_)
          rintro _ _ _ _ ⟨rfl, A602, c603, rfl, rfl⟩
          refine TA.last rfl ?_
          refine TA.eff 10 rfl (by kernel_rfl) rfl (TO.val rfl rfl rfl (Val.fieldAddrB Try.underlying28 rfl sz26 rfl rfl rfl) ?_)
          refine TA.last rfl ?_
          refine TA.eff 11 rfl (by kernel_rfl) rfl (TL.store 2 (ds := [.slice A602 y600.length c603]) (cs' := [.slice A602 y600.length c603, .int .i64 a0.f1.f0, .int .i64 a0.f1.f1, .int .i64 a0.f1.f2, .int .i64 a0.f1.f3]) (L' := (Row k30 30 (.slice A602 y600.length c603) y600 :: Blk b6 [.slice none 0 0, .int .i64 0, .int .i64 0, .int .i64 0, .int .i64 0] 28 :: Blk b7 [.slice A602 y600.length c603, .int .i64 a0.f1.f0, .int .i64 a0.f1.f1, .int .i64 a0.f1.f2, .int .i64 a0.f1.f3] 28 :: L)) rfl sz26 rfl rfl rfl rfl rfl (Nat.le_of_ble_eq_true rfl) rfl rfl ?_)
          refine TA.last rfl ?_
          refine TA.done (by kernel_rfl) ?_
          refine TQ.inB ?_
          refine TQ.back hb588 ?_
          exact fun a W hF hO => ⟨y600, A602, c603, h, hF.sub ⟨rfl, rfl, trivial⟩, hO.selT (Ls := [Blk b6 [.slice none 0 0, .int .i64 0, .int .i64 0, .int .i64 0, .int .i64 0] 28, Blk b7 [.slice A602 y600.length c603, .int .i64 a0.f1.f0, .int .i64 a0.f1.f1, .int .i64 a0.f1.f2, .int .i64 a0.f1.f3] 28, Row k30 30 (.slice A602 y600.length c603) y600]) [2, 3, 1] 4 rfl rfl rfl⟩
  · refine TC.block ?_
    intro a W hF hO
    have hS : ∃ (x111 : Int) (l112 : (List S30)) (A113 : Option Addr) (c114 : Nat), deadstore_Block.l0 a0 (a0.f0.length + 1) x111 l112 = some o168 ∧ Fr 45 a [(2, .pointer (some ⟨b6, 0, none⟩)), (3, .pointer (some ⟨b7, 0, none⟩)), (11, .slice A1 a0.f0.length c2), (12, .int .i64 (a0.f0.length : Int)), (13, .int .i64 x111)] ∧ Own G (Blk b6 [.slice none 0 0, .int .i64 0, .int .i64 0, .int .i64 0, .int .i64 0] 28 :: Blk b7 [.slice A113 l112.length c114, .int .i64 a0.f1.f0, .int .i64 a0.f1.f1, .int .i64 a0.f1.f2, .int .i64 a0.f1.f3] 28 :: Row k30 30 (.slice A113 l112.length c114) l112 :: L) W := by
      exact ⟨0, [], none, 0, ho168, hF.sub ⟨rfl, rfl, rfl, rfl, rfl, trivial⟩, (Own.nilRow k30 30 hO).selT (Ls := [Blk b6 [.slice none 0 0, .int .i64 0, .int .i64 0, .int .i64 0, .int .i64 0] 28, Blk b7 [.slice none ([] : List S30).length 0, .int .i64 a0.f1.f0, .int .i64 a0.f1.f1, .int .i64 a0.f1.f2, .int .i64 a0.f1.f3] 28, Row k30 30 (.slice none ([] : List S30).length 0) ([] : List S30)]) [2, 1, 0] 4 rfl rfl rfl⟩
    clear hF hO ho168 ko168
    refine TC.loop (fun n169 a W => ∃ (x111 : Int) (l112 : (List S30)) (A113 : Option Addr) (c114 : Nat), deadstore_Block.l0 a0 n169 x111 l112 = some o168 ∧ Fr 45 a [(2, .pointer (some ⟨b6, 0, none⟩)), (3, .pointer (some ⟨b7, 0, none⟩)), (11, .slice A1 a0.f0.length c2), (12, .int .i64 (a0.f0.length : Int)), (13, .int .i64 x111)] ∧ Own G (Blk b6 [.slice none 0 0, .int .i64 0, .int .i64 0, .int .i64 0, .int .i64 0] 28 :: Blk b7 [.slice A113 l112.length c114, .int .i64 a0.f1.f0, .int .i64 a0.f1.f1, .int .i64 a0.f1.f2, .int .i64 a0.f1.f3] 28 :: Row k30 30 (.slice A113 l112.length c114) l112 :: L) W) ?_ ?_ hS
    · rintro a W ⟨x111, l112, A113, c114, h, hF, hO⟩
      exact none_no h
    · clear hS
      rintro n169 a W ⟨x111, l112, A113, c114, h, hF, hO⟩
      rw [deadstore_Block.l0] at h
      refine TC.use ?_ hF hO
      clear hF hO
      refine TC.seq ?_
      refine TC.region ?_
      refine TL.cons (TO.val rfl rfl rfl (Val.cmp rfl rfl run_lss) ?_)
      refine TL.nil ?_
      refine TQ.then_ ?_
      refine TC.seq ?_
      refine TC.cond_p rfl h (fun hc606 h => ?_) (fun hc606 h => ?_)
      · refine TC.skip ?_
        refine TQ.then_ ?_
        refine TC.seq ?_
        refine TC.block ?_
        refine TC.seq ?_
        refine TC.region ?_
        obtain ⟨y630, hx631, h⟩ := bind_no h
        obtain ⟨ad632, cs638, hA633, hi634, hj635, hcl636, hK637⟩ := Rd.at hr3 hx631
        obtain ⟨A639, c640, rfl, hr641, hl642⟩ := k30_openR hK637
        refine TL.cons (TO.val rfl rfl rfl (Val.indexAddr Try.underlying26 sz30 rfl hA633 rfl hi634 hj635) ?_)
        refine TL.cons (TO.val rfl rfl rfl (Val.loadsS (cs := [.int .i64 y630.f0, .int .i64 y630.f1, .int .i64 y630.f2, .int .i64 y630.f3, .int .i64 y630.f4, .slice A639 y630.f5.length c640]) agg30 sz30 rfl rfl (Cl.sub (off := 0) (n := 6) hcl636 rfl)) ?_)
        refine TL.cons (TL.alloc (cs := [.int .i64 0, .int .i64 0, .int .i64 0, .int .i64 0, .int .i64 0, .slice none 0 0]) rfl rfl zr30 rfl (fun b643 => ?_))
        refine TL.cons (TL.store 0 (ds := [.int .i64 y630.f0, .int .i64 y630.f1, .int .i64 y630.f2, .int .i64 y630.f3, .int .i64 y630.f4, .slice A639 y630.f5.length c640]) (cs' := [.int .i64 y630.f0, .int .i64 y630.f1, .int .i64 y630.f2, .int .i64 y630.f3, .int .i64 y630.f4, .slice A639 y630.f5.length c640]) (L' := (Blk b643 [.int .i64 y630.f0, .int .i64 y630.f1, .int .i64 y630.f2, .int .i64 y630.f3, .int .i64 y630.f4, .slice A639 y630.f5.length c640] 30 :: Blk b6 [.slice none 0 0, .int .i64 0, .int .i64 0, .int .i64 0, .int .i64 0] 28 :: Blk b7 [.slice A113 l112.length c114, .int .i64 a0.f1.f0, .int .i64 a0.f1.f1, .int .i64 a0.f1.f2, .int .i64 a0.f1.f3] 28 :: Row k30 30 (.slice A113 l112.length c114) l112 :: L)) rfl sz30 rfl rfl rfl rfl rfl (Nat.le_of_ble_eq_true rfl) rfl rfl ?_)
        refine TL.nil ?_
        refine TQ.then_ ?_
        refine TC.seq ?_
        refine TC.region ?_
        refine TL.cons (TO.val rfl rfl rfl (Val.fieldAddrB Try.underlying30 rfl sz22 rfl rfl rfl) ?_)
        refine TL.cons (TO.val rfl rfl rfl (Val.loadB 0 agg22 rfl rfl rfl) ?_)
        obtain ⟨y644, hy645, h⟩ := bind_no h
        refine TL.cons (TL.callV (Lin := []) (args := [.slice A639 y630.f5.length c640]) rfl rfl rfl hb37 rfl rfl (slices_Clone_int_int.calls (a0 := y630.f5) hr641 hl642 hy645) rfl ?_)
        rintro _ _ _ _ ⟨rfl, A646, c647, rfl, rfl⟩
        refine TL.cons (TO.val rfl rfl rfl (Val.fieldAddrB Try.underlying30 rfl sz22 rfl rfl rfl) ?_)
        refine TL.cons (TL.store 1 (ds := [.slice A646 y644.length c647]) (cs' := [.int .i64 y630.f0, .int .i64 y630.f1, .int .i64 y630.f2, .int .i64 y630.f3, .int .i64 y630.f4, .slice A646 y644.length c647]) (L' := (Row (Kd.int .i64) 3 (.slice A646 y644.length c647) y644 :: Blk b643 [.int .i64 y630.f0, .int .i64 y630.f1, .int .i64 y630.f2, .int .i64 y630.f3, .int .i64 y630.f4, .slice A646 y644.length c647] 30 :: Blk b6 [.slice none 0 0, .int .i64 0, .int .i64 0, .int .i64 0, .int .i64 0] 28 :: Blk b7 [.slice A113 l112.length c114, .int .i64 a0.f1.f0, .int .i64 a0.f1.f1, .int .i64 a0.f1.f2, .int .i64 a0.f1.f3] 28 :: Row k30 30 (.slice A113 l112.length c114) l112 :: L)) rfl sz22 rfl rfl rfl rfl rfl (Nat.le_of_ble_eq_true rfl) rfl rfl ?_)
        refine TL.nil ?_
        refine TQ.then_ ?_
        refine TC.region ?_
        refine TL.cons (TO.val rfl rfl rfl (Val.fieldAddrB Try.underlying28 rfl sz26 rfl rfl rfl) ?_)
        refine TL.cons (TO.val rfl rfl rfl (Val.loadB 3 agg26 rfl rfl rfl) ?_)
        refine TL.cons (TO.val rfl rfl rfl (Val.loadsB 1 (cs := [.int .i64 y630.f0, .int .i64 y630.f1, .int .i64 y630.f2, .int .i64 y630.f3, .int .i64 y630.f4, .slice A646 y644.length c647]) agg30 sz30 rfl rfl rfl rfl) ?_)
        refine TL.cons (TL.buildSlice (xs := [.tmp 23]) (vs := [.agg #[.int .i64 y630.f0, .int .i64 y630.f1, .int .i64 y630.f2, .int .i64 y630.f3, .int .i64 y630.f4, .slice A646 y644.length c647]]) (cs := [.int .i64 y630.f0, .int .i64 y630.f1, .int .i64 y630.f2, .int .i64 y630.f3, .int .i64 y630.f4, .slice A646 y644.length c647]) rfl rfl Try.underlying26 zs30 rfl rfl rfl rfl rfl rfl rfl rfl (fun b649 => ?_))
        refine TK.sel (Ls := [Row (Kd.int .i64) 3 (.slice A646 y644.length c647) y644, Blk b649 [.int .i64 y630.f0, .int .i64 y630.f1, .int .i64 y630.f2, .int .i64 y630.f3, .int .i64 y630.f4, .slice A646 y644.length c647] 30, Blk b643 [.int .i64 y630.f0, .int .i64 y630.f1, .int .i64 y630.f2, .int .i64 y630.f3, .int .i64 y630.f4, .slice A646 y644.length c647] 30, Blk b6 [.slice none 0 0, .int .i64 0, .int .i64 0, .int .i64 0, .int .i64 0] 28, Blk b7 [.slice A113 l112.length c114, .int .i64 a0.f1.f0, .int .i64 a0.f1.f1, .int .i64 a0.f1.f2, .int .i64 a0.f1.f3] 28, Row k30 30 (.slice A113 l112.length c114) l112]) [1, 0, 2, 3, 4, 5] 6 rfl rfl rfl ?_
        refine TK.conv (ch' := El k30 (⟨y630.f0, y630.f1, y630.f2, y630.f3, y630.f4, y644⟩ : S30) [.int .i64 y630.f0, .int .i64 y630.f1, .int .i64 y630.f2, .int .i64 y630.f3, .int .i64 y630.f4, .slice A646 y644.length c647]) (fun B W F hh => k30_mkM W B F (⟨y630.f0, y630.f1, y630.f2, y630.f3, y630.f4, y644⟩ : S30) hh) ?_
        refine TK.sel (Ls := [Row k30 30 (.slice A113 l112.length c114) l112, El k30 (⟨y630.f0, y630.f1, y630.f2, y630.f3, y630.f4, y644⟩ : S30) [.int .i64 y630.f0, .int .i64 y630.f1, .int .i64 y630.f2, .int .i64 y630.f3, .int .i64 y630.f4, .slice A646 y644.length c647], Blk b649 [.int .i64 y630.f0, .int .i64 y630.f1, .int .i64 y630.f2, .int .i64 y630.f3, .int .i64 y630.f4, .slice A646 y644.length c647] 30, Blk b643 [.int .i64 y630.f0, .int .i64 y630.f1, .int .i64 y630.f2, .int .i64 y630.f3, .int .i64 y630.f4, .slice A646 y644.length c647] 30, Blk b6 [.slice none 0 0, .int .i64 0, .int .i64 0, .int .i64 0, .int .i64 0] 28, Blk b7 [.slice A113 l112.length c114, .int .i64 a0.f1.f0, .int .i64 a0.f1.f1, .int .i64 a0.f1.f2, .int .i64 a0.f1.f3] 28]) [5, 0, 1, 2, 3, 4] 6 rfl rfl rfl ?_
        obtain ⟨ha650, h⟩ := ite_no h
        refine TL.cons (TL.append k30 rfl rfl Try.underlying26 inf30 rfl (Nat.le_of_ble_eq_true rfl) (Nat.le_of_ble_eq_true rfl) rfl rfl (by omega) (fun A651 c652 => ?_))
        refine TL.cons (TO.val rfl rfl rfl (Val.fieldAddrB Try.underlying28 rfl sz26 rfl rfl rfl) ?_)
        refine TL.cons (TL.store 3 (ds := [.slice A651 (l112 ++ [(⟨y630.f0, y630.f1, y630.f2, y630.f3, y630.f4, y644⟩ : S30)]).length c652]) (cs' := [.slice A651 (l112 ++ [(⟨y630.f0, y630.f1, y630.f2, y630.f3, y630.f4, y644⟩ : S30)]).length c652, .int .i64 a0.f1.f0, .int .i64 a0.f1.f1, .int .i64 a0.f1.f2, .int .i64 a0.f1.f3]) (L' := (Row k30 30 (.slice A651 (l112 ++ [(⟨y630.f0, y630.f1, y630.f2, y630.f3, y630.f4, y644⟩ : S30)]).length c652) (l112 ++ [(⟨y630.f0, y630.f1, y630.f2, y630.f3, y630.f4, y644⟩ : S30)]) :: Blk b643 [.int .i64 y630.f0, .int .i64 y630.f1, .int .i64 y630.f2, .int .i64 y630.f3, .int .i64 y630.f4, .slice A646 y644.length c647] 30 :: Blk b6 [.slice none 0 0, .int .i64 0, .int .i64 0, .int .i64 0, .int .i64 0] 28 :: Blk b7 [.slice A651 (l112 ++ [(⟨y630.f0, y630.f1, y630.f2, y630.f3, y630.f4, y644⟩ : S30)]).length c652, .int .i64 a0.f1.f0, .int .i64 a0.f1.f1, .int .i64 a0.f1.f2, .int .i64 a0.f1.f3] 28 :: L)) rfl sz26 rfl rfl rfl rfl rfl (Nat.le_of_ble_eq_true rfl) rfl rfl ?_)
        refine TL.nil ?_
        refine TQ.inB ?_
        refine TQ.then_ ?_
        refine TC.region ?_
        refine TL.cons (TO.val rfl rfl rfl (Val.cmp rfl rfl run_add) ?_)
        refine TL.cons (TO.val rfl rfl rfl (Val.move rfl) ?_)
        refine TL.nil ?_
        exact fun a W hF hO => ⟨IntKind.i64.wrap (x111 + 1), (l112 ++ [(⟨y630.f0, y630.f1, y630.f2, y630.f3, y630.f4, y644⟩ : S30)]), A651, c652, h, hF.sub ⟨rfl, rfl, rfl, rfl, rfl, trivial⟩, hO.selT (Ls := [Blk b6 [.slice none 0 0, .int .i64 0, .int .i64 0, .int .i64 0, .int .i64 0] 28, Blk b7 [.slice A651 (l112 ++ [(⟨y630.f0, y630.f1, y630.f2, y630.f3, y630.f4, y644⟩ : S30)]).length c652, .int .i64 a0.f1.f0, .int .i64 a0.f1.f1, .int .i64 a0.f1.f2, .int .i64 a0.f1.f3] 28, Row k30 30 (.slice A651 (l112 ++ [(⟨y630.f0, y630.f1, y630.f2, y630.f3, y630.f4, y644⟩ : S30)]).length c652) (l112 ++ [(⟨y630.f0, y630.f1, y630.f2, y630.f3, y630.f4, y644⟩ : S30)])]) [2, 3, 0] 4 rfl rfl rfl⟩
      · refine TC.exit ?_
        refine TQ.thenX ?_
        refine TQ.thenX ?_
        refine TQ.inBX ?_
        exact fun a W hF hO => ⟨l112, A113, c114, Option.some.inj h, hF.sub ⟨rfl, rfl, trivial⟩, hO.selT (Ls := [Blk b6 [.slice none 0 0, .int .i64 0, .int .i64 0, .int .i64 0, .int .i64 0] 28, Blk b7 [.slice A113 l112.length c114, .int .i64 a0.f1.f0, .int .i64 a0.f1.f1, .int .i64 a0.f1.f2, .int .i64 a0.f1.f3] 28, Row k30 30 (.slice A113 l112.length c114) l112]) [0, 1, 2] 3 rfl rfl rfl⟩
end Go.Proofs.Ytmacdhkfgoahcaa.Sx
set_option linter.unusedVariables false
set_option linter.unusedSimpArgs false
namespace Go.Proofs.Ytmacdhkfgoahcaa.Sx
open Go Go.RowKit Go.Proofs.YtmacdhkfgoahcaaW.PrintWords Go.Proofs.Ytmacdhkfgoahcaa.Q Go.Proofs.Ytmacdhkfgoahcaa.Fo Go.Proofs.Ytmacdhkfgoahcaa.De
theorem at_nat {α : Type} (xs : List α) (k : Nat) : at? xs (k : Int) = xs[k]? := by
  unfold at?; rw [if_pos (by omega), Int.toNat_natCast]
theorem wrap_small {n : Int} (h0 : -9223372036854775808 ≤ n) (h1 : n ≤ 9223372036854775807) : IntKind.i64.wrap n = n := by
  rw [IntKind.wrap_i64]; omega
theorem wrap_succ {k : Nat} (h : k < 9223372036854775807) : IntKind.i64.wrap ((k : Int) + 1) = ((k + 1 : Nat) : Int) := by
  rw [wrap_small (by omega) (by omega)]; omega
/-- The state behind a row, from its end. -/
def bk : List S30 → St
  | [] => st0
  | x :: r => stepP (bk r) x
def hit (t : St) (x : S30) : Bool := t.is && (t.a == x.f2) && (t.imm == x.f4) && !(t.s x.f2)
theorem deadP_hit (t : St) (x : S30) : deadP t x = ((x.f0 == 5) && hit t x) := rfl
def dd : List S30 → List Bool
  | [] => []
  | x :: r => deadP (bk r) x :: dd r
def idx : Nat → List Bool → List Int
  | _, [] => []
  | i, true :: r => (i : Int) :: idx (i + 1) r
  | i, false :: r => idx (i + 1) r
theorem goBack_spec (xs : List S30) : ∀ k, k ≤ xs.length → (goBack xs k).1 = bk (xs.drop (xs.length - k)) ∧ (goBack xs k).2.reverse = idx (xs.length - k) (dd (xs.drop (xs.length - k)))
  | 0, _ => by simp [goBack, bk, dd, idx]
  | k + 1, hk => by
    obtain ⟨h1, h2⟩ := goBack_spec xs k (by omega)
    have hlt : xs.length - 1 - k < xs.length := by omega
    have hd : xs.drop (xs.length - (k + 1)) = xs[xs.length - 1 - k] :: xs.drop (xs.length - k) := by
      rw [show xs.length - (k + 1) = xs.length - 1 - k by omega, List.drop_eq_getElem_cons hlt, show xs.length - 1 - k + 1 = xs.length - k by omega]
    have hg : xs.getD (xs.length - 1 - k) z30 = xs[xs.length - 1 - k] := by simp [hlt]
    rw [hd]
    refine ⟨?_, ?_⟩
    · simp only [goBack, hg, h1, bk]
    · simp only [goBack, hg, h1, dd]
      rw [show xs.length - (k + 1) = xs.length - 1 - k by omega]
      cases deadP (bk (xs.drop (xs.length - k))) xs[xs.length - 1 - k]
      · simp only [Bool.false_eq_true, if_false, idx, h2]
        rw [show xs.length - 1 - k + 1 = xs.length - k by omega]
      · simp only [if_true, List.reverse_append, List.reverse_cons, List.reverse_nil, List.nil_append, List.cons_append, idx, h2]
        rw [show xs.length - 1 - k + 1 = xs.length - k by omega]
theorem deadL_idx (xs : List S30) : deadL xs = idx 0 (dd xs) := by
  have := (goBack_spec xs xs.length (Nat.le_refl _)).2
  rwa [Nat.sub_self, List.drop_zero] at this
/-- What is left. -/
def keep : List S30 → List S30
  | [] => []
  | x :: r => if deadP (bk r) x = true then keep r else x :: keep r
theorem hit_store (t : St) {x : S30} (hx : (x.f0 == 5) = true) (z : S30) : hit (stepP t x) z = ((x.f2 == z.f2) && (x.f4 == z.f4)) := by
  simp [hit, stepP, hx]
theorem hit_pure (t : St) {x : S30} (hx : (x.f0 == 5) = false) (hp : pureB x = true) (z : S30) : hit (stepP t x) z = (hit t z && !(z.f2 == setsI x)) := by
  simp only [hit, stepP, hx, hp, if_true, add, Bool.false_eq_true, if_false]
  cases t.is <;> cases (t.a == z.f2) <;> cases (t.imm == z.f4) <;> cases (t.s z.f2) <;> simp <;> rfl
theorem hit_else (t : St) {x : S30} (hx : (x.f0 == 5) = false) (hp : pureB x = false) (z : S30) : hit (stepP t x) z = false := by
  simp [hit, stepP, hx, hp]
theorem hit_step {t t' : St} (h : ∀ z, hit t z = hit t' z) (x z : S30) : hit (stepP t x) z = hit (stepP t' x) z := by
  rcases Bool.eq_false_or_eq_true (x.f0 == 5) with hx | hx
  · rw [hit_store t hx, hit_store t' hx]
  · rcases Bool.eq_false_or_eq_true (pureB x) with hp | hp
    · rw [hit_pure t hx hp, hit_pure t' hx hp, h]
    · rw [hit_else t hx hp, hit_else t' hx hp]
/-- A store that need not be is not missed. -/
theorem hit_dead {t : St} {x : S30} (h : deadP t x = true) (z : S30) : hit (stepP t x) z = hit t z := by
  rw [deadP_hit] at h
  obtain ⟨hx, hh⟩ := (Bool.and_eq_true _ _).mp h
  rw [hit_store t hx]
  simp only [hit, Bool.and_eq_true, beq_iff_eq, Bool.not_eq_true'] at hh
  obtain ⟨⟨⟨h1, h2⟩, h3⟩, h4⟩ := hh
  simp only [hit, h1, h2, h3, Bool.true_and]
  by_cases e : x.f2 = z.f2
  · rw [← e, h4]; simp
  · simp [e]
theorem hit_keep : ∀ (l : List S30) (z : S30), hit (bk (keep l)) z = hit (bk l) z
  | [], _ => rfl
  | x :: r, z => by
    unfold keep
    by_cases h : deadP (bk r) x = true
    · rw [if_pos h, hit_keep r z]; exact (hit_dead h z).symm
    · rw [if_neg h]; exact hit_step (hit_keep r) x z
theorem dead_keep (l : List S30) (x : S30) : deadP (bk (keep l)) x = deadP (bk l) x := by rw [deadP_hit, deadP_hit, hit_keep]
theorem dd_keep : ∀ (l : List S30), ∀ b ∈ dd (keep l), b = false
  | [], b, hb => by cases hb
  | x :: r, b, hb => by
    unfold keep at hb
    by_cases h : deadP (bk r) x = true
    · rw [if_pos h] at hb; exact dd_keep r b hb
    · rw [if_neg h] at hb
      rcases List.mem_cons.1 hb with rfl | hb
      · rw [dead_keep]; simpa using h
      · exact dd_keep r b hb
theorem idx_false : ∀ (bs : List Bool) (i : Nat), (∀ b ∈ bs, b = false) → idx i bs = []
  | [], _, _ => rfl
  | b :: r, i, h => by
    obtain rfl := h b (by simp)
    exact idx_false r (i + 1) (fun b hb => h b (by simp [hb]))
theorem deadL_keep (l : List S30) : deadL (keep l) = [] := by rw [deadL_idx]; exact idx_false _ _ (dd_keep l)
/-- The first that need not be. -/
theorem first_dead : ∀ (l : List S30) (i : Nat), (idx i (dd l) = [] ∧ keep l = l) ∨ ∃ j r, idx i (dd l) = ((i + j : Nat) : Int) :: r ∧ j < l.length ∧ keep (l.take j ++ l.drop (j + 1)) = keep l
  | [], i => .inl ⟨rfl, rfl⟩
  | x :: r, i => by
    by_cases h : deadP (bk r) x = true
    · refine .inr ⟨0, idx (i + 1) (dd r), by simp [dd, h, idx], by simp, ?_⟩
      simp [keep, h]
    · have hf : deadP (bk r) x = false := by simpa using h
      rcases first_dead r (i + 1) with ⟨h1, h2⟩ | ⟨j, q, h1, h2, h3⟩
      · exact .inl ⟨by simp [dd, hf, idx, h1], by simp [keep, hf, h2]⟩
      · refine .inr ⟨j + 1, q, ?_, by simpa using h2, ?_⟩
        · simp only [dd, hf, idx, h1]; congr 2; omega
        · have hb : deadP (bk (r.take j ++ r.drop (j + 1))) x = false := by
            rw [← dead_keep, h3, dead_keep]; exact hf
          simp [keep, hf, hb, h3]
end Go.Proofs.Ytmacdhkfgoahcaa.Sx
set_option linter.unusedVariables false
set_option linter.unusedSimpArgs false
set_option maxRecDepth 100000
set_option maxHeartbeats 4000000
namespace Go.Proofs.Ytmacdhkfgoahcaa.Sx
open Go Go.RowKit Go.Proofs.YtmacdhkfgoahcaaW.PrintWords Go.Proofs.Ytmacdhkfgoahcaa.Q
def deadstore_Stores.l1 (y719 : S28) : Nat → Int → Int → Option (Int)
  | 0, _, _ => none
  | n853 + 1, x811, x812 => (if x812 < (y719.f0.length : Int) then (at? y719.f0 x812).bind fun y875 => jn (fun (x890 : Int) => deadstore_Stores.l1 y719 n853 x890 (IntKind.i64.wrap (x812 + 1))) (fun j891 => (if y875.f0 = 5 then j891 (IntKind.i64.wrap (x811 + 1)) else j891 x811)) else some x811)
def deadstore_Stores.l0 (a0 : S36) : Nat → Int → Int → Option (Int)
  | 0, _, _ => none
  | n591 + 1, x394, x395 => (if x395 < (a0.f1.length : Int) then (at? a0.f1 x395).bind fun y719 => (deadstore_Stores.l1 y719 (y719.f0.length + 1) x394 0).bind fun (x851 : Int) => deadstore_Stores.l0 a0 n591 x851 (IntKind.i64.wrap (x395 + 1)) else some x394)
def deadstore_Stores.f (a0 : S36) : Option Int := (deadstore_Stores.l0 a0 (a0.f1.length + 1) 0 0).bind fun (x589 : Int) => some x589
def deadstore_Stores.post (G : Gd) (r : Int) (v : Value) (G' : Gd) (Lr : List Ch) : Prop := G = G' ∧ v = .int .i64 r ∧ Lr = []
theorem deadstore_Stores.calls {G : Gd} {r : Int} {a0 : S36} {A1 : Option Addr} {c2 : Nat} (hr3 : Rd G k28 A1 a0.f1) (hl4 : a0.f1.length ≤ c2) (h : deadstore_Stores.f a0 = some r) : Fn Try.prog 12 G [] [.agg #[.int .i64 a0.f0, .slice A1 a0.f1.length c2]] (deadstore_Stores.post G r) := by
  refine Fn.intro Try.func12 rfl Try.ntmps12 rfl (Nat.le_of_ble_eq_true rfl) (fun L => ?_)
  unfold deadstore_Stores.f at h
  refine TC.seq ?_
  refine TC.region ?_
  refine TL.cons (TL.box (cs := [.int .i64 a0.f0, .slice A1 a0.f1.length c2]) rfl rfl rfl rfl (fun b5 => ?_))
  refine TL.cons (TO.val rfl rfl rfl (Val.assign rfl) ?_)
  refine TL.nil ?_
  refine TQ.then_ ?_
  refine TC.seq ?_
  refine TC.region ?_
  refine TL.cons (TO.val rfl rfl rfl (Val.assign rfl) ?_)
  refine TL.nil ?_
  refine TQ.then_ ?_
  refine TC.seq ?_
  refine TC.seq ?_
  refine TC.region ?_
  refine TL.cons (TO.val rfl rfl rfl (Val.fieldAddrB Try.underlying36 rfl sz34 rfl rfl rfl) ?_)
  refine TL.cons (TO.val rfl rfl rfl (Val.loadB 0 agg34 rfl rfl rfl) ?_)
  refine TL.cons (TO.val rfl rfl rfl (Val.len Try.underlying34 rfl) ?_)
  refine TL.cons (TO.val rfl rfl rfl (Val.move rfl) ?_)
  refine TL.nil ?_
  refine TQ.then_ ?_
  obtain ⟨o590, ho590, ko590⟩ := bind_no h
  clear h
  refine TC.tail (fun a W => ∃ (x589 : Int), x589 = o590 ∧ Fr 30 a [(3, .int .i64 x589)] ∧ Own G (L) W) ?_ ?_
  · rintro a W ⟨x589, rfl, hF, hO⟩
    have h := ko590
    clear ko590 ho590
    refine TQ.use ?_ hF hO
    clear hF hO
    refine TQ.then_ ?_
    refine TC.seq ?_
    refine TC.region ?_
    refine TL.cons (TO.val rfl rfl rfl (Val.move rfl) ?_)
    refine TL.cons (TO.val rfl rfl rfl (Val.assign rfl) ?_)
    refine TL.nil ?_
    refine TQ.then_ ?_
    refine TC.ret ?_
    obtain rfl := Option.some.inj h
    exact TQ.done (Ls := []) (.inl rfl) [] 0 Try.results12 (.tmp rfl .nil) rfl (Gd.le.refl _) rfl rfl rfl ⟨rfl, rfl, rfl⟩
  · refine TC.block ?_
    intro a W hF hO
    have hS : ∃ (x394 : Int) (x395 : Int), deadstore_Stores.l0 a0 (a0.f1.length + 1) x394 x395 = some o590 ∧ Fr 30 a [(3, .int .i64 x394), (9, .slice A1 a0.f1.length c2), (10, .int .i64 (a0.f1.length : Int)), (11, .int .i64 x395)] ∧ Own G (L) W := by
      exact ⟨0, 0, ho590, hF.sub ⟨rfl, rfl, rfl, rfl, trivial⟩, hO.selT (Ls := []) [] 1 rfl rfl rfl⟩
    clear hF hO ho590 ko590
    refine TC.loop (fun n591 a W => ∃ (x394 : Int) (x395 : Int), deadstore_Stores.l0 a0 n591 x394 x395 = some o590 ∧ Fr 30 a [(3, .int .i64 x394), (9, .slice A1 a0.f1.length c2), (10, .int .i64 (a0.f1.length : Int)), (11, .int .i64 x395)] ∧ Own G (L) W) ?_ ?_ hS
    · rintro a W ⟨x394, x395, h, hF, hO⟩
      exact none_no h
    · clear hS
      rintro n591 a W ⟨x394, x395, h, hF, hO⟩
      rw [deadstore_Stores.l0] at h
      refine TC.use ?_ hF hO
      clear hF hO
      refine TC.seq ?_
      refine TC.region ?_
      refine TL.cons (TO.val rfl rfl rfl (Val.cmp rfl rfl run_lss) ?_)
      refine TL.nil ?_
      refine TQ.then_ ?_
      refine TC.seq ?_
      refine TC.cond_p rfl h (fun hc594 h => ?_) (fun hc594 h => ?_)
      · refine TC.skip ?_
        refine TQ.then_ ?_
        refine TC.seq ?_
        refine TC.block ?_
        refine TC.seq ?_
        refine TC.region ?_
        obtain ⟨y719, hx720, h⟩ := bind_no h
        obtain ⟨ad721, cs727, hA722, hi723, hj724, hcl725, hK726⟩ := Rd.at hr3 hx720
        obtain ⟨A728, c729, rfl, hr730, hl731⟩ := k28_openR hK726
        refine TL.cons (TO.val rfl rfl rfl (Val.indexAddr Try.underlying34 sz28 rfl hA722 rfl hi723 hj724) ?_)
        refine TL.cons (TO.val rfl rfl rfl (Val.loadsS (cs := [.slice A728 y719.f0.length c729, .int .i64 y719.f1.f0, .int .i64 y719.f1.f1, .int .i64 y719.f1.f2, .int .i64 y719.f1.f3]) agg28 sz28 rfl rfl (Cl.sub (off := 0) (n := 5) hcl725 rfl)) ?_)
        refine TL.cons (TL.alloc (cs := [.slice none 0 0, .int .i64 0, .int .i64 0, .int .i64 0, .int .i64 0]) rfl rfl zr28 rfl (fun b732 => ?_))
        refine TL.cons (TL.store 0 (ds := [.slice A728 y719.f0.length c729, .int .i64 y719.f1.f0, .int .i64 y719.f1.f1, .int .i64 y719.f1.f2, .int .i64 y719.f1.f3]) (cs' := [.slice A728 y719.f0.length c729, .int .i64 y719.f1.f0, .int .i64 y719.f1.f1, .int .i64 y719.f1.f2, .int .i64 y719.f1.f3]) (L' := (Blk b732 [.slice A728 y719.f0.length c729, .int .i64 y719.f1.f0, .int .i64 y719.f1.f1, .int .i64 y719.f1.f2, .int .i64 y719.f1.f3] 28 :: L)) rfl sz28 rfl rfl rfl rfl rfl (Nat.le_of_ble_eq_true rfl) rfl rfl ?_)
        refine TL.nil ?_
        refine TQ.then_ ?_
        refine TC.seq ?_
        refine TC.region ?_
        refine TL.cons (TO.val rfl rfl rfl (Val.fieldAddrB Try.underlying28 rfl sz26 rfl rfl rfl) ?_)
        refine TL.cons (TO.val rfl rfl rfl (Val.loadB 0 agg26 rfl rfl rfl) ?_)
        refine TL.cons (TO.val rfl rfl rfl (Val.len Try.underlying26 rfl) ?_)
        refine TL.cons (TO.val rfl rfl rfl (Val.move rfl) ?_)
        refine TL.nil ?_
        refine TQ.then_ ?_
        obtain ⟨o852, ho852, ko852⟩ := bind_no h
        clear h
        refine TC.tail (fun a W => ∃ (x851 : Int), x851 = o852 ∧ Fr 30 a [(3, .int .i64 x851), (9, .slice A1 a0.f1.length c2), (10, .int .i64 (a0.f1.length : Int)), (11, .int .i64 x395)] ∧ Own G (L) W) ?_ ?_
        · rintro a W ⟨x851, rfl, hF, hO⟩
          have h := ko852
          clear ko852 ho852
          refine TQ.use ?_ hF hO
          clear hF hO
          refine TQ.inB ?_
          refine TQ.then_ ?_
          refine TC.region ?_
          refine TL.cons (TO.val rfl rfl rfl (Val.cmp rfl rfl run_add) ?_)
          refine TL.cons (TO.val rfl rfl rfl (Val.move rfl) ?_)
          refine TL.nil ?_
          exact fun a W hF hO => ⟨x851, IntKind.i64.wrap (x395 + 1), h, hF.sub ⟨rfl, rfl, rfl, rfl, trivial⟩, hO.selT (Ls := []) [] 0 rfl rfl rfl⟩
        · refine TC.block ?_
          intro a W hF hO
          have hS : ∃ (x811 : Int) (x812 : Int), deadstore_Stores.l1 y719 (y719.f0.length + 1) x811 x812 = some o852 ∧ Fr 30 a [(3, .int .i64 x811), (9, .slice A1 a0.f1.length c2), (10, .int .i64 (a0.f1.length : Int)), (11, .int .i64 x395), (16, .slice A728 y719.f0.length c729), (17, .int .i64 (y719.f0.length : Int)), (18, .int .i64 x812)] ∧ Own G (L) W := by
            exact ⟨x394, 0, ho852, hF.sub ⟨rfl, rfl, rfl, rfl, rfl, rfl, rfl, trivial⟩, hO.selT (Ls := []) [] 1 rfl rfl rfl⟩
          clear hF hO ho852 ko852
          refine TC.loop (fun n853 a W => ∃ (x811 : Int) (x812 : Int), deadstore_Stores.l1 y719 n853 x811 x812 = some o852 ∧ Fr 30 a [(3, .int .i64 x811), (9, .slice A1 a0.f1.length c2), (10, .int .i64 (a0.f1.length : Int)), (11, .int .i64 x395), (16, .slice A728 y719.f0.length c729), (17, .int .i64 (y719.f0.length : Int)), (18, .int .i64 x812)] ∧ Own G (L) W) ?_ ?_ hS
          · rintro a W ⟨x811, x812, h, hF, hO⟩
            exact none_no h
          · clear hS
            rintro n853 a W ⟨x811, x812, h, hF, hO⟩
            rw [deadstore_Stores.l1] at h
            refine TC.use ?_ hF hO
            clear hF hO
            refine TC.seq ?_
            refine TC.region ?_
            refine TL.cons (TO.val rfl rfl rfl (Val.cmp rfl rfl run_lss) ?_)
            refine TL.nil ?_
            refine TQ.then_ ?_
            refine TC.seq ?_
            refine TC.cond_p rfl h (fun hc856 h => ?_) (fun hc856 h => ?_)
            · refine TC.skip ?_
              refine TQ.then_ ?_
              refine TC.seq ?_
              refine TC.block ?_
              refine TC.seq ?_
              refine TC.region ?_
              obtain ⟨y875, hx876, h⟩ := bind_no h
              obtain ⟨ad877, cs883, hA878, hi879, hj880, hcl881, hK882⟩ := Rd.at hr730 hx876
              obtain ⟨A884, c885, rfl, hr886, hl887⟩ := k30_openR hK882
              refine TL.cons (TO.val rfl rfl rfl (Val.indexAddr Try.underlying26 sz30 rfl hA878 rfl hi879 hj880) ?_)
              refine TL.cons (TO.val rfl rfl rfl (Val.loadsS (cs := [.int .i64 y875.f0, .int .i64 y875.f1, .int .i64 y875.f2, .int .i64 y875.f3, .int .i64 y875.f4, .slice A884 y875.f5.length c885]) agg30 sz30 rfl rfl (Cl.sub (off := 0) (n := 6) hcl881 rfl)) ?_)
              refine TL.cons (TL.alloc (cs := [.int .i64 0, .int .i64 0, .int .i64 0, .int .i64 0, .int .i64 0, .slice none 0 0]) rfl rfl zr30 rfl (fun b888 => ?_))
              refine TL.cons (TL.store 0 (ds := [.int .i64 y875.f0, .int .i64 y875.f1, .int .i64 y875.f2, .int .i64 y875.f3, .int .i64 y875.f4, .slice A884 y875.f5.length c885]) (cs' := [.int .i64 y875.f0, .int .i64 y875.f1, .int .i64 y875.f2, .int .i64 y875.f3, .int .i64 y875.f4, .slice A884 y875.f5.length c885]) (L' := (Blk b888 [.int .i64 y875.f0, .int .i64 y875.f1, .int .i64 y875.f2, .int .i64 y875.f3, .int .i64 y875.f4, .slice A884 y875.f5.length c885] 30 :: L)) rfl sz30 rfl rfl rfl rfl rfl (Nat.le_of_ble_eq_true rfl) rfl rfl ?_)
              refine TL.nil ?_
              refine TQ.then_ ?_
              refine TC.seq ?_
              refine TC.region ?_
              refine TL.cons (TO.val rfl rfl rfl (Val.fieldAddrB Try.underlying30 rfl sz3 rfl rfl rfl) ?_)
              refine TL.cons (TO.val rfl rfl rfl (Val.loadB 0 agg3 rfl rfl rfl) ?_)
              refine TL.cons (TO.val rfl rfl rfl (Val.cmp rfl rfl run_eql) ?_)
              refine TL.nil ?_
              refine TQ.then_ ?_
              obtain ⟨j891, hj891, h⟩ := jn_no h
              refine TC.tail (fun a W => ∃ (x890 : Int), j891 x890 = some o852 ∧ Fr 30 a [(3, .int .i64 x890), (9, .slice A1 a0.f1.length c2), (10, .int .i64 (a0.f1.length : Int)), (11, .int .i64 x395), (16, .slice A728 y719.f0.length c729), (17, .int .i64 (y719.f0.length : Int)), (18, .int .i64 x812)] ∧ Own G (L) W) ?_ ?_
              · rintro a W ⟨x890, h, hF, hO⟩
                rw [hj891] at h
                refine TQ.use ?_ hF hO
                clear hF hO
                refine TQ.inB ?_
                refine TQ.then_ ?_
                refine TC.region ?_
                refine TL.cons (TO.val rfl rfl rfl (Val.cmp rfl rfl run_add) ?_)
                refine TL.cons (TO.val rfl rfl rfl (Val.move rfl) ?_)
                refine TL.nil ?_
                exact fun a W hF hO => ⟨x890, IntKind.i64.wrap (x812 + 1), h, hF.sub ⟨rfl, rfl, rfl, rfl, rfl, rfl, rfl, trivial⟩, hO.selT (Ls := []) [] 0 rfl rfl rfl⟩
              · refine TC.cond_p rfl h (fun hc892 h => ?_) (fun hc892 h => ?_)
                · refine TC.region ?_
                  refine TL.cons (TO.val rfl rfl rfl (Val.move rfl) ?_)
                  refine TL.cons (TO.val rfl rfl rfl (Val.cmp rfl rfl run_add) ?_)
                  refine TL.cons (TO.val rfl rfl rfl (Val.assign rfl) ?_)
                  refine TL.nil ?_
                  exact fun a W hF hO => ⟨IntKind.i64.wrap (x811 + 1), h, hF.sub ⟨rfl, rfl, rfl, rfl, rfl, rfl, rfl, trivial⟩, hO.selT (Ls := []) [] 1 rfl rfl rfl⟩
                · refine TC.skip ?_
                  exact fun a W hF hO => ⟨x811, h, hF.sub ⟨rfl, rfl, rfl, rfl, rfl, rfl, rfl, trivial⟩, hO.selT (Ls := []) [] 1 rfl rfl rfl⟩
            · refine TC.exit ?_
              refine TQ.thenX ?_
              refine TQ.thenX ?_
              refine TQ.inBX ?_
              exact fun a W hF hO => ⟨x811, Option.some.inj h, hF.sub ⟨rfl, rfl, rfl, rfl, trivial⟩, hO.selT (Ls := []) [] 0 rfl rfl rfl⟩
      · refine TC.exit ?_
        refine TQ.thenX ?_
        refine TQ.thenX ?_
        refine TQ.inBX ?_
        exact fun a W hF hO => ⟨x394, Option.some.inj h, hF.sub ⟨rfl, trivial⟩, hO.selT (Ls := []) [] 0 rfl rfl rfl⟩
end Go.Proofs.Ytmacdhkfgoahcaa.Sx
set_option linter.unusedVariables false
set_option linter.unusedSimpArgs false
namespace Go.Proofs.Ytmacdhkfgoahcaa.Sx
open Go Go.RowKit Go.Proofs.YtmacdhkfgoahcaaW.PrintWords Go.Proofs.Ytmacdhkfgoahcaa.Q Go.Proofs.Ytmacdhkfgoahcaa.Fo Go.Proofs.Ytmacdhkfgoahcaa.De
theorem drop_cons {α : Type} {xs : List α} {k : Nat} {x : α} {r : List α} (h : xs.drop k = x :: r) : xs[k]? = some x ∧ k < xs.length ∧ xs.drop (k + 1) = r := by
  have hlt : k < xs.length := by
    rcases Nat.lt_or_ge k xs.length with h' | h'
    · exact h'
    · rw [List.drop_eq_nil_of_le h'] at h; cases h
  rw [List.drop_eq_getElem_cons hlt] at h
  injection h with h1 h2
  exact ⟨by rw [List.getElem?_eq_getElem hlt, h1], hlt, h2⟩
theorem drop_nil {α : Type} {xs : List α} {k : Nat} (h : xs.drop k = []) : xs.length ≤ k := by
  rcases Nat.lt_or_ge k xs.length with h' | h'
  · rw [List.drop_eq_getElem_cons h'] at h; cases h
  · exact h'
theorem clone_eq {l : List Int} (h : l.length ≤ 17592186044416) : slices_Clone_int_int.f l = some l := by
  unfold slices_Clone_int_int.f
  rw [if_pos (by simpa using h), List.nil_append]
theorem block_l0 (a0 : S28) (hl : a0.f0.length < 2199023255552) (hc : ∀ x ∈ a0.f0, x.f5.length ≤ 17592186044416) : ∀ (r : List S30) (k fuel : Nat) (acc : List S30), a0.f0.drop k = r → r.length < fuel → acc.length = k → deadstore_Block.l0 a0 fuel k acc = some (acc ++ r)
  | _, _, 0, _, _, h, _ => by omega
  | [], k, fuel + 1, acc, h, _, _ => by
    have := drop_nil h
    unfold deadstore_Block.l0
    rw [if_neg (by omega), List.append_nil]
  | x :: r, k, fuel + 1, acc, h, hf, ha => by
    obtain ⟨h1, h2, h3⟩ := drop_cons h
    unfold deadstore_Block.l0
    rw [if_pos (by omega), at_nat, h1]
    simp only [Option.bind_some]
    rw [clone_eq (hc x (List.mem_of_getElem? h1))]
    simp only [Option.bind_some]
    rw [if_pos (by omega), wrap_succ (by omega), block_l0 a0 hl hc r (k + 1) fuel _ h3 (by simpa using hf) (by simp [ha])]
    simp
/-- Numbers of their kind, rows not too long. -/
structure Fit (l : List S30) : Prop where
  wf : ∀ x ∈ l, WfOp x
  len : l.length < 1099511627776
  args : ∀ x ∈ l, x.f5.length ≤ 17592186044416
theorem dead_f {l : List S30} {t : S25} (h : Fit l) : deadstore_Dead.f ⟨l, t⟩ = some (deadL l) := by
  unfold deadstore_Dead.f
  exact if_pos ⟨h.wf, h.len⟩
theorem block_l1 (a0 : S28) : ∀ (fuel : Nat) (l : List S30), l.length < fuel → Fit l → deadstore_Block.l1 a0 fuel l = some ⟨keep l, a0.f1⟩
  | 0, _, h, _ => by omega
  | fuel + 1, l, h, hw => by
    unfold deadstore_Block.l1
    rw [dead_f hw]
    simp only [Option.bind_some]
    rcases first_dead l 0 with ⟨h1, h2⟩ | ⟨j, r, h1, h2, h3⟩
    · rw [deadL_idx, h1, if_pos (by simp), h2]
    · rw [deadL_idx, h1, Nat.zero_add, if_neg (by simp; omega)]
      have e : at? (((j : Nat) : Int) :: r) 0 = some ((j : Nat) : Int) := rfl
      have hl := hw.len
      rw [e]
      simp only [Option.bind_some]
      have hd : slices_Delete_api_Op_api_Op.f l (j : Int) (IntKind.i64.wrap ((j : Int) + 1)) = some (l.take j ++ l.drop (j + 1)) := by
        unfold slices_Delete_api_Op_api_Op.f
        rw [wrap_succ (by omega), if_pos (by omega), Int.toNat_natCast, Int.toNat_natCast]
      rw [hd]
      simp only [Option.bind_some]
      have hlen : (l.take j ++ l.drop (j + 1)).length + 1 = l.length := by rw [List.length_append, List.length_take, List.length_drop]; omega
      have hmem : ∀ x ∈ l.take j ++ l.drop (j + 1), x ∈ l := fun x hx => (List.mem_append.1 hx).elim List.mem_of_mem_take List.mem_of_mem_drop
      rw [block_l1 a0 fuel _ (by omega) ⟨fun x hx => hw.wf x (hmem x hx), by omega, fun x hx => hw.args x (hmem x hx)⟩, h3]
theorem block_f {a0 : S28} (h : Fit a0.f0) : deadstore_Block.f a0 = some ⟨keep a0.f0, a0.f1⟩ := by
  have hl := h.len
  unfold deadstore_Block.f
  rw [show (0 : Int) = ((0 : Nat) : Int) from rfl, block_l0 a0 (by omega) h.args a0.f0 0 _ [] (by simp) (by omega) rfl]
  simp only [Option.bind_some, List.nil_append]
  rw [block_l1 a0 _ _ (by omega) h]
  rfl
theorem keep_mem : ∀ {l : List S30} {x : S30}, x ∈ keep l → x ∈ l
  | [], _, h => by cases h
  | y :: r, x, h => by
    unfold keep at h
    split at h
    · exact List.mem_cons_of_mem _ (keep_mem h)
    · rcases List.mem_cons.1 h with rfl | h
      · simp
      · exact List.mem_cons_of_mem _ (keep_mem h)
theorem keep_length : ∀ (l : List S30), (keep l).length ≤ l.length
  | [] => Nat.le_refl _
  | y :: r => by
    have := keep_length r
    unfold keep
    split <;> simp <;> omega
theorem Fit.keep {l : List S30} (h : Fit l) : Fit (keep l) := ⟨fun x hx => h.wf x (keep_mem hx), Nat.lt_of_le_of_lt (keep_length l) h.len, fun x hx => h.args x (keep_mem hx)⟩
/-- How many stores. -/
def stores (l : List S30) : Nat := l.countP (fun x => x.f0 == 5)
theorem stores_l1 (y : S28) : ∀ (r : List S30) (k fuel n : Nat), y.f0.drop k = r → r.length < fuel → n + r.length < 9223372036854775807 → k + r.length < 9223372036854775807 → deadstore_Stores.l1 y fuel n k = some ((n + stores r : Nat) : Int)
  | _, _, 0, _, _, h, _, _ => by omega
  | [], k, fuel + 1, n, h, _, _, _ => by
    have := drop_nil h
    unfold deadstore_Stores.l1
    rw [if_neg (by omega)]; simp [stores]
  | x :: r, k, fuel + 1, n, h, hf, hn, hk => by
    obtain ⟨h1, h2, h3⟩ := drop_cons h
    simp only [List.length_cons] at hf hn hk
    unfold deadstore_Stores.l1
    rw [if_pos (by omega), at_nat, h1]
    simp only [Option.bind_some, jn]
    by_cases e : x.f0 = 5
    · rw [if_pos e, wrap_succ (by omega), wrap_succ (by omega), stores_l1 y r (k + 1) fuel (n + 1) h3 (by omega) (by omega) (by omega)]
      simp only [stores, List.countP_cons, e]; congr 2; simp; omega
    · rw [if_neg e, wrap_succ (by omega), stores_l1 y r (k + 1) fuel n h3 (by omega) (by omega) (by omega)]
      simp [stores, List.countP_cons, e]
def storesB (bs : List S28) : Nat := (bs.map fun b => stores b.f0).sum
def sizeB (bs : List S28) : Nat := (bs.map fun b => b.f0.length).sum
theorem stores_le (l : List S30) : stores l ≤ l.length := List.countP_le_length
theorem stores_l0 (a0 : S36) : ∀ (r : List S28) (k fuel n : Nat), a0.f1.drop k = r → r.length < fuel → n + sizeB r < 9223372036854775807 → k + r.length < 9223372036854775807 → deadstore_Stores.l0 a0 fuel n k = some ((n + storesB r : Nat) : Int)
  | _, _, 0, _, _, h, _, _ => by omega
  | [], k, fuel + 1, n, h, _, _, _ => by
    have := drop_nil h
    unfold deadstore_Stores.l0
    rw [if_neg (by omega)]; simp [storesB]
  | x :: r, k, fuel + 1, n, h, hf, hn, hk => by
    obtain ⟨h1, h2, h3⟩ := drop_cons h
    simp only [List.length_cons] at hf hk
    simp only [sizeB, List.map_cons, List.sum_cons] at hn
    have hs := stores_le x.f0
    unfold deadstore_Stores.l0
    rw [if_pos (by omega), at_nat, h1]
    simp only [Option.bind_some]
    rw [show (0 : Int) = ((0 : Nat) : Int) from rfl, stores_l1 x x.f0 0 _ n (by simp) (by omega) (by omega) (by omega)]
    simp only [Option.bind_some]
    rw [wrap_succ (by omega), stores_l0 a0 r (k + 1) fuel _ h3 (by omega) (by simp only [sizeB]; omega) (by omega)]
    simp only [storesB, List.map_cons, List.sum_cons]; congr 2; omega
theorem stores_f {a0 : S36} (h : sizeB a0.f1 < 9223372036854775807) (h2 : a0.f1.length < 9223372036854775807) : deadstore_Stores.f a0 = some ((storesB a0.f1 : Nat) : Int) := by
  unfold deadstore_Stores.f
  rw [show (0 : Int) = ((0 : Nat) : Int) from rfl, stores_l0 a0 a0.f1 0 _ 0 (by simp) (by omega) (by omega) (by omega)]
  simp
end Go.Proofs.Ytmacdhkfgoahcaa.Sx
set_option linter.unusedVariables false
set_option linter.unusedSimpArgs false
set_option maxRecDepth 100000
set_option maxHeartbeats 4000000
namespace Go.Proofs.Ytmacdhkfgoahcaa.Sx
open Go Go.RowKit Go.Proofs.YtmacdhkfgoahcaaW.PrintWords Go.Proofs.Ytmacdhkfgoahcaa.Q
def swagelaw14_Few.l1 (a0 : S36) (x911 : Int) : Nat → Int → Option (Sum Bool (Unit))
  | 0, _ => none
  | n1962 + 1, x1868 => jn (fun (x1995 : Bool) => (if x1995 = true then (at? a0.f1 x911).bind fun y2027 => (at? y2027.f0 x1868).bind fun y2040 => (if 20 < (y2040.f5.length : Int) then some (.inl false) else swagelaw14_Few.l1 a0 x911 n1962 (IntKind.i64.wrap (x1868 + 1))) else some (.inr ()))) (fun j1996 => (at? a0.f1 x911).bind fun y2055 => (if x1868 < (y2055.f0.length : Int) then j1996 (decide (x1868 < 300)) else j1996 false))
def swagelaw14_Few.l0 (a0 : S36) : Nat → Int → Int → Option (Sum Bool (Int))
  | 0, _, _ => none
  | n1365 + 1, x910, x911 => jn (fun (x1378 : Bool) => (if x1378 = true then (at? a0.f1 x911).bind fun y1670 => (swagelaw14_Few.l1 a0 x911 ((at? a0.f1 x911).elim 0 (fun vy1963 => vy1963.f0.length) + 1) 0).bind fun | .inl q_ => some (.inl q_) | .inr _ => (swagelaw14_Few.l0 a0 n1365 (IntKind.i64.wrap (x910 + (y1670.f0.length : Int))) (IntKind.i64.wrap (x911 + 1))) else some (.inr x910))) (fun j1379 => (if x911 < (a0.f1.length : Int) then j1379 (decide (x911 < 100)) else j1379 false))
def swagelaw14_Few.f (a0 : S36) : Option Bool := (swagelaw14_Few.l0 a0 (a0.f1.length + 1) 0 0).bind fun | .inl q_ => some q_ | .inr x1363 => (if (a0.f1.length : Int) ≤ 40 then some (decide (x1363 ≤ 250)) else some false)
def swagelaw14_Few.post (G : Gd) (r : Bool) (v : Value) (G' : Gd) (Lr : List Ch) : Prop := G = G' ∧ v = .bool r ∧ Lr = []
theorem swagelaw14_Few.calls {G : Gd} {r : Bool} {a0 : S36} {A1 : Option Addr} {c2 : Nat} (hr3 : Rd G k28 A1 a0.f1) (hl4 : a0.f1.length ≤ c2) (h : swagelaw14_Few.f a0 = some r) : Fn Try.prog 13 G [] [.agg #[.int .i64 a0.f0, .slice A1 a0.f1.length c2]] (swagelaw14_Few.post G r) := by
  refine Fn.intro Try.func13 rfl Try.ntmps13 rfl (Nat.le_of_ble_eq_true rfl) (fun L => ?_)
  unfold swagelaw14_Few.f at h
  refine TC.seq ?_
  refine TC.region ?_
  refine TL.cons (TL.box (cs := [.int .i64 a0.f0, .slice A1 a0.f1.length c2]) rfl rfl rfl rfl (fun b5 => ?_))
  refine TL.cons (TO.val rfl rfl rfl (Val.assign rfl) ?_)
  refine TL.nil ?_
  refine TQ.then_ ?_
  refine TC.seq ?_
  refine TC.region ?_
  refine TL.cons (TO.val rfl rfl rfl (Val.assign rfl) ?_)
  refine TL.nil ?_
  refine TQ.then_ ?_
  refine TC.seq ?_
  refine TC.seq ?_
  refine TC.region ?_
  refine TL.cons (TO.val rfl rfl rfl (Val.assign rfl) ?_)
  refine TL.nil ?_
  refine TQ.then_ ?_
  obtain ⟨o1364, ho1364, ko1364⟩ := bind_no h
  clear h
  refine TC.tail (fun a W => ∃ (x1363 : Int), (.inr x1363) = o1364 ∧ Fr 61 a [(1, .pointer (some ⟨b5, 0, none⟩)), (3, .int .i64 x1363)] ∧ Own G (Blk b5 [.int .i64 a0.f0, .slice A1 a0.f1.length c2] 36 :: L) W) ?_ ?_
  · rintro a W ⟨x1363, rfl, hF, hO⟩
    have h := ko1364
    clear ko1364 ho1364
    refine TQ.use ?_ hF hO
    clear hF hO
    refine TQ.then_ ?_
    refine TC.seq ?_
    refine TC.region ?_
    refine TL.cons (TO.val rfl rfl rfl (Val.fieldAddrB Try.underlying36 rfl sz34 rfl rfl rfl) ?_)
    refine TL.cons (TO.val rfl rfl rfl (Val.loadB 0 agg34 rfl rfl rfl) ?_)
    refine TL.cons (TO.val rfl rfl rfl (Val.len Try.underlying34 rfl) ?_)
    refine TL.cons (TO.val rfl rfl rfl (Val.cmp rfl rfl run_leq) ?_)
    refine TL.cons (TO.val rfl rfl rfl (Val.move rfl) ?_)
    refine TK.split (p := (a0.f1.length : Int) ≤ 40) h (fun hg1372 h => ?_) (fun hg1372 h => ?_)
    · have hk1373 : decide ((a0.f1.length : Int) ≤ 40) = true := decide_eq_true hg1372
      refine TL.cons (TO.val (Wt.yes rfl rfl rfl hk1373) rfl rfl (Val.move rfl) ?_)
      refine TL.cons (TO.val (Wt.yes rfl rfl rfl hk1373) rfl rfl (Val.cmp rfl rfl run_leq) ?_)
      refine TL.cons (TO.val rfl rfl rfl (Val.pickY rfl hk1373 rfl) ?_)
      refine TL.cons (TO.val rfl rfl rfl (Val.assign rfl) ?_)
      refine TL.nil ?_
      refine TQ.then_ ?_
      refine TC.ret ?_
      obtain rfl := Option.some.inj h
      exact TQ.done (Ls := []) (.inl rfl) [] 1 Try.results13 (.tmp rfl .nil) rfl (Gd.le.refl _) rfl rfl rfl ⟨rfl, rfl, rfl⟩
    · have hk1374 : decide ((a0.f1.length : Int) ≤ 40) = false := decide_eq_false hg1372
      refine TL.cons (TL.not (Wt.no rfl rfl rfl hk1374) rfl ?_)
      refine TL.cons (TL.not (Wt.no rfl rfl rfl hk1374) rfl ?_)
      refine TL.cons (TO.val rfl rfl rfl (Val.pickN rfl hk1374 rfl) ?_)
      refine TL.cons (TO.val rfl rfl rfl (Val.assign rfl) ?_)
      refine TL.nil ?_
      refine TQ.then_ ?_
      refine TC.ret ?_
      obtain rfl := Option.some.inj h
      exact TQ.done (Ls := []) (.inl rfl) [] 1 Try.results13 (.tmp rfl .nil) rfl (Gd.le.refl _) rfl rfl rfl ⟨rfl, rfl, rfl⟩
  · refine TC.block ?_
    intro a W hF hO
    have hS : ∃ (x910 : Int) (x911 : Int), swagelaw14_Few.l0 a0 (a0.f1.length + 1) x910 x911 = some o1364 ∧ Fr 61 a [(1, .pointer (some ⟨b5, 0, none⟩)), (3, .int .i64 x910), (4, .int .i64 x911)] ∧ Own G (Blk b5 [.int .i64 a0.f0, .slice A1 a0.f1.length c2] 36 :: L) W := by
      exact ⟨0, 0, ho1364, hF.sub ⟨rfl, rfl, rfl, trivial⟩, hO.selT (Ls := [Blk b5 [.int .i64 a0.f0, .slice A1 a0.f1.length c2] 36]) [0] 1 rfl rfl rfl⟩
    clear hF hO ho1364
    refine TC.loop (fun n1365 a W => ∃ (x910 : Int) (x911 : Int), swagelaw14_Few.l0 a0 n1365 x910 x911 = some o1364 ∧ Fr 61 a [(1, .pointer (some ⟨b5, 0, none⟩)), (3, .int .i64 x910), (4, .int .i64 x911)] ∧ Own G (Blk b5 [.int .i64 a0.f0, .slice A1 a0.f1.length c2] 36 :: L) W) ?_ ?_ hS
    · rintro a W ⟨x910, x911, h, hF, hO⟩
      exact none_no h
    · clear hS
      rintro n1365 a W ⟨x910, x911, h, hF, hO⟩
      rw [swagelaw14_Few.l0] at h
      refine TC.use ?_ hF hO
      clear hF hO
      refine TC.seq ?_
      refine TC.seq ?_
      obtain ⟨j1379, hj1379, h⟩ := jn_no h
      refine TC.tail (fun a W => ∃ (x1378 : Bool), j1379 x1378 = some o1364 ∧ Fr 61 a [(1, .pointer (some ⟨b5, 0, none⟩)), (3, .int .i64 x910), (4, .int .i64 x911), (14, .bool x1378)] ∧ Own G (Blk b5 [.int .i64 a0.f0, .slice A1 a0.f1.length c2] 36 :: L) W) ?_ ?_
      · rintro a W ⟨x1378, h, hF, hO⟩
        rw [hj1379] at h
        refine TQ.use ?_ hF hO
        clear hF hO
        refine TQ.then_ ?_
        refine TC.cond_b rfl h (fun hc1381 h => ?_) (fun hc1381 h => ?_)
        · refine TC.skip ?_
          refine TQ.then_ ?_
          refine TC.seq ?_
          refine TC.block ?_
          refine TC.seq ?_
          refine TC.region ?_
          refine TL.cons (TO.val rfl rfl rfl (Val.move rfl) ?_)
          refine TL.cons (TO.val rfl rfl rfl (Val.fieldAddrB Try.underlying36 rfl sz34 rfl rfl rfl) ?_)
          refine TL.cons (TO.val rfl rfl rfl (Val.loadB 0 agg34 rfl rfl rfl) ?_)
          refine TL.cons (TO.val rfl rfl rfl (Val.move rfl) ?_)
          obtain ⟨y1670, hx1671, h⟩ := bind_no h
          obtain ⟨ad1672, cs1678, hA1673, hi1674, hj1675, hcl1676, hK1677⟩ := Rd.at hr3 hx1671
          obtain ⟨A1679, c1680, rfl, hr1681, hl1682⟩ := k28_openR hK1677
          refine TL.cons (TO.val rfl rfl rfl (Val.indexAddr Try.underlying34 sz28 rfl hA1673 rfl hi1674 hj1675) ?_)
          refine TL.cons (TO.val rfl rfl rfl (Val.fieldAddrE Try.underlying28 rfl sz26 rfl rfl) ?_)
          refine TL.cons (TO.val rfl rfl rfl (Val.loadS agg26 rfl (hcl1676 0 _ rfl)) ?_)
          refine TL.cons (TO.val rfl rfl rfl (Val.len Try.underlying26 rfl) ?_)
          refine TL.cons (TO.val rfl rfl rfl (Val.cmp rfl rfl run_add) ?_)
          refine TL.cons (TO.val rfl rfl rfl (Val.assign rfl) ?_)
          refine TL.nil ?_
          refine TQ.then_ ?_
          refine TC.seq ?_
          refine TC.region ?_
          refine TL.cons (TO.val rfl rfl rfl (Val.assign rfl) ?_)
          refine TL.nil ?_
          refine TQ.then_ ?_
          obtain ⟨o1961, ho1961, ko1961⟩ := bind_no h
          clear h
          refine TC.tail (fun a W => (.inr ()) = o1961 ∧ Fr 61 a [(1, .pointer (some ⟨b5, 0, none⟩)), (3, .int .i64 (IntKind.i64.wrap (x910 + (y1670.f0.length : Int)))), (4, .int .i64 x911)] ∧ Own G (Blk b5 [.int .i64 a0.f0, .slice A1 a0.f1.length c2] 36 :: L) W) ?_ ?_
          · rintro a W ⟨rfl, hF, hO⟩
            have h := ko1961
            clear ko1961 ho1961
            refine TQ.use ?_ hF hO
            clear hF hO
            refine TQ.inB ?_
            refine TQ.then_ ?_
            refine TC.region ?_
            refine TL.cons (TO.val rfl rfl rfl (Val.move rfl) ?_)
            refine TL.cons (TO.val rfl rfl rfl (Val.cmp rfl rfl run_add) ?_)
            refine TL.cons (TO.val rfl rfl rfl (Val.assign rfl) ?_)
            refine TL.nil ?_
            exact fun a W hF hO => ⟨IntKind.i64.wrap (x910 + (y1670.f0.length : Int)), IntKind.i64.wrap (x911 + 1), h, hF.sub ⟨rfl, rfl, rfl, trivial⟩, hO.selT (Ls := [Blk b5 [.int .i64 a0.f0, .slice A1 a0.f1.length c2] 36]) [0] 1 rfl rfl rfl⟩
          · refine TC.block ?_
            intro a W hF hO
            have hS : ∃ (x1868 : Int), swagelaw14_Few.l1 a0 x911 ((at? a0.f1 x911).elim 0 (fun vy1963 => vy1963.f0.length) + 1) x1868 = some o1961 ∧ Fr 61 a [(1, .pointer (some ⟨b5, 0, none⟩)), (3, .int .i64 (IntKind.i64.wrap (x910 + (y1670.f0.length : Int)))), (4, .int .i64 x911), (5, .int .i64 x1868)] ∧ Own G (Blk b5 [.int .i64 a0.f0, .slice A1 a0.f1.length c2] 36 :: L) W := by
              exact ⟨0, ho1961, hF.sub ⟨rfl, rfl, rfl, rfl, trivial⟩, hO.selT (Ls := [Blk b5 [.int .i64 a0.f0, .slice A1 a0.f1.length c2] 36]) [0] 1 rfl rfl rfl⟩
            clear hF hO ho1961
            refine TC.loop (fun n1962 a W => ∃ (x1868 : Int), swagelaw14_Few.l1 a0 x911 n1962 x1868 = some o1961 ∧ Fr 61 a [(1, .pointer (some ⟨b5, 0, none⟩)), (3, .int .i64 (IntKind.i64.wrap (x910 + (y1670.f0.length : Int)))), (4, .int .i64 x911), (5, .int .i64 x1868)] ∧ Own G (Blk b5 [.int .i64 a0.f0, .slice A1 a0.f1.length c2] 36 :: L) W) ?_ ?_ hS
            · rintro a W ⟨x1868, h, hF, hO⟩
              exact none_no h
            · clear hS
              rintro n1962 a W ⟨x1868, h, hF, hO⟩
              rw [swagelaw14_Few.l1] at h
              refine TC.use ?_ hF hO
              clear hF hO
              refine TC.seq ?_
              refine TC.seq ?_
              obtain ⟨j1996, hj1996, h⟩ := jn_no h
              refine TC.tail (fun a W => ∃ (x1995 : Bool), j1996 x1995 = some o1961 ∧ Fr 61 a [(1, .pointer (some ⟨b5, 0, none⟩)), (3, .int .i64 (IntKind.i64.wrap (x910 + (y1670.f0.length : Int)))), (4, .int .i64 x911), (5, .int .i64 x1868), (38, .bool x1995)] ∧ Own G (Blk b5 [.int .i64 a0.f0, .slice A1 a0.f1.length c2] 36 :: L) W) ?_ ?_
              · rintro a W ⟨x1995, h, hF, hO⟩
                rw [hj1996] at h
                refine TQ.use ?_ hF hO
                clear hF hO
                refine TQ.then_ ?_
                refine TC.cond_b rfl h (fun hc1998 h => ?_) (fun hc1998 h => ?_)
                · refine TC.skip ?_
                  refine TQ.then_ ?_
                  refine TC.seq ?_
                  refine TC.block ?_
                  refine TC.seq ?_
                  refine TC.region ?_
                  refine TL.cons (TO.val rfl rfl rfl (Val.fieldAddrB Try.underlying36 rfl sz34 rfl rfl rfl) ?_)
                  refine TL.cons (TO.val rfl rfl rfl (Val.loadB 0 agg34 rfl rfl rfl) ?_)
                  refine TL.cons (TO.val rfl rfl rfl (Val.move rfl) ?_)
                  obtain ⟨y2027, hx2028, h⟩ := bind_no h
                  obtain ⟨ad2029, cs2035, hA2030, hi2031, hj2032, hcl2033, hK2034⟩ := Rd.at hr3 hx2028
                  obtain ⟨A2036, c2037, rfl, hr2038, hl2039⟩ := k28_openR hK2034
                  refine TL.cons (TO.val rfl rfl rfl (Val.indexAddr Try.underlying34 sz28 rfl hA2030 rfl hi2031 hj2032) ?_)
                  refine TL.cons (TO.val rfl rfl rfl (Val.fieldAddrE Try.underlying28 rfl sz26 rfl rfl) ?_)
                  refine TL.cons (TO.val rfl rfl rfl (Val.loadS agg26 rfl (hcl2033 0 _ rfl)) ?_)
                  refine TL.cons (TO.val rfl rfl rfl (Val.move rfl) ?_)
                  obtain ⟨y2040, hx2041, h⟩ := bind_no h
                  obtain ⟨ad2042, cs2048, hA2043, hi2044, hj2045, hcl2046, hK2047⟩ := Rd.at hr2038 hx2041
                  obtain ⟨A2049, c2050, rfl, hr2051, hl2052⟩ := k30_openR hK2047
                  refine TL.cons (TO.val rfl rfl rfl (Val.indexAddr Try.underlying26 sz30 rfl hA2043 rfl hi2044 hj2045) ?_)
                  refine TL.cons (TO.val rfl rfl rfl (Val.fieldAddrE Try.underlying30 rfl sz22 rfl rfl) ?_)
                  refine TL.cons (TO.val rfl rfl rfl (Val.loadS agg22 rfl (hcl2046 5 _ rfl)) ?_)
                  refine TL.cons (TO.val rfl rfl rfl (Val.len Try.underlying22 rfl) ?_)
                  refine TL.cons (TO.val rfl rfl rfl (Val.cmp rfl rfl run_gtr) ?_)
                  refine TL.nil ?_
                  refine TQ.then_ ?_
                  refine TC.cond_p rfl h (fun hc2054 h => ?_) (fun hc2054 h => ?_)
                  · refine TC.seq ?_
                    refine TC.region ?_
                    refine TL.cons (TO.val rfl rfl rfl (Val.assign rfl) ?_)
                    refine TL.nil ?_
                    refine TQ.then_ ?_
                    refine TC.ret ?_
                    refine TQ.inBR ?_
                    refine TQ.thenR ?_
                    refine TQ.thenR ?_
                    refine TQ.inBR ?_
                    refine TQ.thenR ?_
                    refine TQ.inBR ?_
                    refine TQ.thenR ?_
                    refine TQ.thenR ?_
                    refine TQ.inBR ?_
                    refine TQ.thenR ?_
                    refine TQ.thenR ?_
                    obtain rfl := Option.some.inj h
                    have h := ko1961
                    obtain rfl := Option.some.inj h
                    have h := ko1364
                    obtain rfl := Option.some.inj h
                    exact TQ.done (Ls := []) (.inl rfl) [] 1 Try.results13 (.tmp rfl .nil) rfl (Gd.le.refl _) rfl rfl rfl ⟨rfl, rfl, rfl⟩
                  · refine TC.skip ?_
                    refine TQ.inB ?_
                    refine TQ.then_ ?_
                    refine TC.region ?_
                    refine TL.cons (TO.val rfl rfl rfl (Val.move rfl) ?_)
                    refine TL.cons (TO.val rfl rfl rfl (Val.cmp rfl rfl run_add) ?_)
                    refine TL.cons (TO.val rfl rfl rfl (Val.assign rfl) ?_)
                    refine TL.nil ?_
                    exact fun a W hF hO => ⟨IntKind.i64.wrap (x1868 + 1), h, hF.sub ⟨rfl, rfl, rfl, rfl, trivial⟩, hO.selT (Ls := [Blk b5 [.int .i64 a0.f0, .slice A1 a0.f1.length c2] 36]) [0] 1 rfl rfl rfl⟩
                · refine TC.exit ?_
                  refine TQ.thenX ?_
                  refine TQ.thenX ?_
                  refine TQ.inBX ?_
                  exact fun a W hF hO => ⟨Option.some.inj h, hF.sub ⟨rfl, rfl, rfl, trivial⟩, hO.selT (Ls := [Blk b5 [.int .i64 a0.f0, .slice A1 a0.f1.length c2] 36]) [0] 1 rfl rfl rfl⟩
              · refine TC.region ?_
                refine TL.cons (TO.val rfl rfl rfl (Val.move rfl) ?_)
                refine TL.cons (TO.val rfl rfl rfl (Val.fieldAddrB Try.underlying36 rfl sz34 rfl rfl rfl) ?_)
                refine TL.cons (TO.val rfl rfl rfl (Val.loadB 0 agg34 rfl rfl rfl) ?_)
                refine TL.cons (TO.val rfl rfl rfl (Val.move rfl) ?_)
                obtain ⟨y2055, hx2056, h⟩ := bind_no h
                obtain ⟨ad2057, cs2063, hA2058, hi2059, hj2060, hcl2061, hK2062⟩ := Rd.at hr3 hx2056
                obtain ⟨A2064, c2065, rfl, hr2066, hl2067⟩ := k28_openR hK2062
                refine TL.cons (TO.val rfl rfl rfl (Val.indexAddr Try.underlying34 sz28 rfl hA2058 rfl hi2059 hj2060) ?_)
                refine TL.cons (TO.val rfl rfl rfl (Val.fieldAddrE Try.underlying28 rfl sz26 rfl rfl) ?_)
                refine TL.cons (TO.val rfl rfl rfl (Val.loadS agg26 rfl (hcl2061 0 _ rfl)) ?_)
                refine TL.cons (TO.val rfl rfl rfl (Val.len Try.underlying26 rfl) ?_)
                refine TL.cons (TO.val rfl rfl rfl (Val.cmp rfl rfl run_lss) ?_)
                refine TL.cons (TO.val rfl rfl rfl (Val.move rfl) ?_)
                refine TK.split (p := x1868 < (y2055.f0.length : Int)) h (fun hg2068 h => ?_) (fun hg2068 h => ?_)
                · have hk2069 : decide (x1868 < (y2055.f0.length : Int)) = true := decide_eq_true hg2068
                  refine TL.cons (TO.val (Wt.yes rfl rfl rfl hk2069) rfl rfl (Val.move rfl) ?_)
                  refine TL.cons (TO.val (Wt.yes rfl rfl rfl hk2069) rfl rfl (Val.cmp rfl rfl run_lss) ?_)
                  refine TL.cons (TO.val rfl rfl rfl (Val.pickY rfl hk2069 rfl) ?_)
                  refine TL.nil ?_
                  exact fun a W hF hO => ⟨decide (x1868 < 300), h, hF.sub ⟨rfl, rfl, rfl, rfl, rfl, trivial⟩, hO.selT (Ls := [Blk b5 [.int .i64 a0.f0, .slice A1 a0.f1.length c2] 36]) [0] 1 rfl rfl rfl⟩
                · have hk2070 : decide (x1868 < (y2055.f0.length : Int)) = false := decide_eq_false hg2068
                  refine TL.cons (TL.not (Wt.no rfl rfl rfl hk2070) rfl ?_)
                  refine TL.cons (TL.not (Wt.no rfl rfl rfl hk2070) rfl ?_)
                  refine TL.cons (TO.val rfl rfl rfl (Val.pickN rfl hk2070 rfl) ?_)
                  refine TL.nil ?_
                  exact fun a W hF hO => ⟨false, h, hF.sub ⟨rfl, rfl, rfl, rfl, rfl, trivial⟩, hO.selT (Ls := [Blk b5 [.int .i64 a0.f0, .slice A1 a0.f1.length c2] 36]) [0] 1 rfl rfl rfl⟩
        · refine TC.exit ?_
          refine TQ.thenX ?_
          refine TQ.thenX ?_
          refine TQ.inBX ?_
          exact fun a W hF hO => ⟨x910, Option.some.inj h, hF.sub ⟨rfl, rfl, trivial⟩, hO.selT (Ls := [Blk b5 [.int .i64 a0.f0, .slice A1 a0.f1.length c2] 36]) [0] 1 rfl rfl rfl⟩
      · refine TC.region ?_
        refine TL.cons (TO.val rfl rfl rfl (Val.move rfl) ?_)
        refine TL.cons (TO.val rfl rfl rfl (Val.fieldAddrB Try.underlying36 rfl sz34 rfl rfl rfl) ?_)
        refine TL.cons (TO.val rfl rfl rfl (Val.loadB 0 agg34 rfl rfl rfl) ?_)
        refine TL.cons (TO.val rfl rfl rfl (Val.len Try.underlying34 rfl) ?_)
        refine TL.cons (TO.val rfl rfl rfl (Val.cmp rfl rfl run_lss) ?_)
        refine TL.cons (TO.val rfl rfl rfl (Val.move rfl) ?_)
        refine TK.split (p := x911 < (a0.f1.length : Int)) h (fun hg2071 h => ?_) (fun hg2071 h => ?_)
        · have hk2072 : decide (x911 < (a0.f1.length : Int)) = true := decide_eq_true hg2071
          refine TL.cons (TO.val (Wt.yes rfl rfl rfl hk2072) rfl rfl (Val.move rfl) ?_)
          refine TL.cons (TO.val (Wt.yes rfl rfl rfl hk2072) rfl rfl (Val.cmp rfl rfl run_lss) ?_)
          refine TL.cons (TO.val rfl rfl rfl (Val.pickY rfl hk2072 rfl) ?_)
          refine TL.nil ?_
          exact fun a W hF hO => ⟨decide (x911 < 100), h, hF.sub ⟨rfl, rfl, rfl, rfl, trivial⟩, hO.selT (Ls := [Blk b5 [.int .i64 a0.f0, .slice A1 a0.f1.length c2] 36]) [0] 1 rfl rfl rfl⟩
        · have hk2073 : decide (x911 < (a0.f1.length : Int)) = false := decide_eq_false hg2071
          refine TL.cons (TL.not (Wt.no rfl rfl rfl hk2073) rfl ?_)
          refine TL.cons (TL.not (Wt.no rfl rfl rfl hk2073) rfl ?_)
          refine TL.cons (TO.val rfl rfl rfl (Val.pickN rfl hk2073 rfl) ?_)
          refine TL.nil ?_
          exact fun a W hF hO => ⟨false, h, hF.sub ⟨rfl, rfl, rfl, rfl, trivial⟩, hO.selT (Ls := [Blk b5 [.int .i64 a0.f0, .slice A1 a0.f1.length c2] 36]) [0] 1 rfl rfl rfl⟩
end Go.Proofs.Ytmacdhkfgoahcaa.Sx
set_option linter.unusedVariables false
set_option linter.unusedSimpArgs false
namespace Go.Proofs.Ytmacdhkfgoahcaa.Sx
open Go Go.RowKit Go.Proofs.YtmacdhkfgoahcaaW.PrintWords Go.Proofs.Ytmacdhkfgoahcaa.Q Go.Proofs.Ytmacdhkfgoahcaa.Fo Go.Proofs.Ytmacdhkfgoahcaa.De
abbrev In25 (t : S25) : Prop := (Lit.int .i64 t.f0).wf = true ∧ (Lit.int .i64 t.f1).wf = true ∧ (Lit.int .i64 t.f2).wf = true ∧ (Lit.int .i64 t.f3).wf = true
abbrev In30 (x : S30) : Prop := (Lit.int .i64 x.f0).wf = true ∧ (Lit.int .i64 x.f1).wf = true ∧ (Lit.int .i64 x.f2).wf = true ∧ (Lit.int .i64 x.f3).wf = true ∧ (Lit.int .i64 x.f4).wf = true ∧ (x.f5.length * 8 ≤ 140737488351232 ∧ ∀ r ∈ x.f5, (Lit.int .i64 r).wf = true)
abbrev In28 (b : S28) : Prop := (b.f0.length * 64 ≤ 140737488351232 ∧ ∀ x ∈ b.f0, In30 x) ∧ In25 b.f1
abbrev In36 (f : S36) : Prop := (Lit.int .i64 f.f0).wf = true ∧ (f.f1.length * 56 ≤ 140737488351232 ∧ ∀ b ∈ f.f1, In28 b)
theorem In28.fit {b : S28} (h : In28 b) (hl : b.f0.length ≤ 250) : Fit b.f0 := ⟨fun x hx => by
  obtain ⟨_, h1, h2, h3, h4, h5, h6⟩ := h.1.2 x hx
  exact ⟨h1, h2, h3, h4, h6⟩, by omega, fun x hx => by
  obtain ⟨_, h1, h2, h3, h4, h5, h6⟩ := h.1.2 x hx
  omega⟩
def okArgs (l : List S30) : Bool := l.all fun x => decide (x.f5.length ≤ 20)
theorem few_l1 (a0 : S36) (i : Nat) (b : S28) (hb : a0.f1[i]? = some b) (hl : b.f0.length < 4611686018427387904) : ∀ (r : List S30) (k fuel : Nat), b.f0.drop k = r → r.length < fuel → k ≤ 300 → swagelaw14_Few.l1 a0 i fuel k = some (if okArgs (r.take (300 - k)) = true then .inr () else .inl false)
  | _, _, 0, _, h, _ => by omega
  | [], k, fuel + 1, h, _, _ => by
    have := drop_nil h
    unfold swagelaw14_Few.l1
    simp only [jn]
    rw [at_nat, hb]
    simp only [Option.bind_some]
    rw [if_neg (by omega)]
    simp [okArgs]
  | x :: r, k, fuel + 1, h, hf, hk => by
    obtain ⟨h1, h2, h3⟩ := drop_cons h
    simp only [List.length_cons] at hf
    unfold swagelaw14_Few.l1
    simp only [jn]
    rw [at_nat, hb]
    simp only [Option.bind_some]
    rw [if_pos (by omega)]
    by_cases h300 : k < 300
    · rw [if_pos (by simp; omega), at_nat, h1]
      simp only [Option.bind_some]
      obtain ⟨m, hm⟩ : ∃ m, 300 - k = m + 1 := ⟨299 - k, by omega⟩
      have hm' : 300 - (k + 1) = m := by omega
      rw [hm, List.take_succ_cons]
      by_cases h20 : x.f5.length ≤ 20
      · rw [if_neg (by omega), wrap_succ (by omega), few_l1 a0 i b hb hl r (k + 1) fuel h3 (by omega) (by omega), hm']
        simp [okArgs, h20]
      · rw [if_pos (by omega)]
        simp [okArgs, h20]
    · rw [if_neg (by simp; omega), show 300 - k = 0 by omega]
      simp [okArgs]
def okBlocks (l : List S28) : Bool := l.all fun b => okArgs (b.f0.take 300)
theorem few_l0 (a0 : S36) (hs : ∀ b ∈ a0.f1, b.f0.length * 64 ≤ 140737488351232) : ∀ (r : List S28) (k fuel n : Nat), a0.f1.drop k = r → r.length < fuel → k ≤ 100 → n ≤ k * 2199023255552 → swagelaw14_Few.l0 a0 fuel n k = some (if okBlocks (r.take (100 - k)) = true then .inr (((n + sizeB (r.take (100 - k)) : Nat) : Int)) else .inl false)
  | _, _, 0, _, _, h, _, _ => by omega
  | [], k, fuel + 1, n, h, _, _, _ => by
    have := drop_nil h
    unfold swagelaw14_Few.l0
    simp only [jn]
    rw [if_neg (by omega)]
    simp [okBlocks, sizeB]
  | b :: r, k, fuel + 1, n, h, hf, hk, hn => by
    obtain ⟨h1, h2, h3⟩ := drop_cons h
    simp only [List.length_cons] at hf
    have hbl := hs b (List.mem_of_getElem? h1)
    unfold swagelaw14_Few.l0
    simp only [jn]
    rw [if_pos (by omega)]
    by_cases h100 : k < 100
    · rw [if_pos (by simp; omega), at_nat, h1]
      simp only [Option.bind_some, Option.elim_some]
      have q := few_l1 a0 k b h1 (by omega) b.f0 0 (b.f0.length + 1) (by simp) (by omega) (by omega)
      have q' : swagelaw14_Few.l1 a0 (k : Int) (b.f0.length + 1) 0 = _ := q
      rw [q']
      obtain ⟨m, hm⟩ : ∃ m, 100 - k = m + 1 := ⟨99 - k, by omega⟩
      have hm' : 100 - (k + 1) = m := by omega
      rw [hm, List.take_succ_cons]
      by_cases hok : okArgs (b.f0.take (300 - 0)) = true
      · rw [if_pos hok]
        simp only [Option.bind_some]
        rw [wrap_succ (by omega), wrap_small (n := (n : Int) + (b.f0.length : Int)) (by omega) (by omega), show (n : Int) + (b.f0.length : Int) = ((n + b.f0.length : Nat) : Int) by omega, few_l0 a0 hs r (k + 1) fuel _ h3 (by omega) (by omega) (by omega), hm']
        have hok' : okArgs (b.f0.take 300) = true := hok
        have e1 : okBlocks (b :: r.take m) = okBlocks (r.take m) := by simp [okBlocks, hok']
        have e2 : sizeB (b :: r.take m) = b.f0.length + sizeB (r.take m) := by simp [sizeB]
        rw [e1, e2, Nat.add_assoc]
      · rw [if_neg hok]
        simp only [Option.bind_some]
        have hok' : okArgs (b.f0.take 300) = false := by simpa using hok
        have e1 : okBlocks (b :: r.take m) = false := by simp [okBlocks, hok']
        rw [e1]; rfl
    · rw [if_neg (by simp; omega), show 100 - k = 0 by omega]
      simp [okBlocks, sizeB]
theorem sizeB_mem {l : List S28} {b : S28} (h : b ∈ l) : b.f0.length ≤ sizeB l := by
  induction l with
  | nil => cases h
  | cons x r ih =>
    simp only [sizeB, List.map_cons, List.sum_cons]
    rcases List.mem_cons.1 h with rfl | h
    · omega
    · have := ih h; simp only [sizeB] at this; omega
theorem few_f {a0 : S36} (h : In36 a0) : ∃ b, swagelaw14_Few.f a0 = some b ∧ (b = true → a0.f1.length ≤ 40 ∧ sizeB a0.f1 ≤ 250 ∧ ∀ x ∈ a0.f1, x.f0.length ≤ 250 ∧ Fit x.f0) := by
  have q := few_l0 a0 (fun b hb => (h.2.2 b hb).1.1) a0.f1 0 (a0.f1.length + 1) 0 (by simp) (by omega) (by omega) (by omega)
  have q' : swagelaw14_Few.l0 a0 (a0.f1.length + 1) 0 0 = _ := q
  unfold swagelaw14_Few.f
  rw [q']
  split
  · simp only [Option.bind_some, Nat.zero_add, Nat.sub_zero]
    by_cases h40 : (a0.f1.length : Int) ≤ 40
    · rw [if_pos h40]
      refine ⟨_, rfl, fun hb => ?_⟩
      have hb := of_decide_eq_true hb
      rw [List.take_of_length_le (by omega)] at hb
      have hs : sizeB a0.f1 ≤ 250 := by omega
      refine ⟨by omega, hs, fun x hx => ?_⟩
      have := sizeB_mem hx
      exact ⟨by omega, In28.fit (h.2.2 x hx) (by omega)⟩
    · rw [if_neg h40]; exact ⟨_, rfl, fun hb => by cases hb⟩
  · exact ⟨_, rfl, fun hb => by cases hb⟩
end Go.Proofs.Ytmacdhkfgoahcaa.Sx
set_option linter.unusedVariables false
set_option linter.unusedSimpArgs false
set_option maxRecDepth 100000
set_option maxHeartbeats 4000000
namespace Go.Proofs.Ytmacdhkfgoahcaa.Sx
open Go Go.RowKit Go.Proofs.YtmacdhkfgoahcaaW.PrintWords Go.Proofs.Ytmacdhkfgoahcaa.Q
def swageref02_Ints.l0 (a0 : (List Int)) (a1 : (List Int)) : Nat → Int → Option (Sum Bool (Unit))
  | 0, _ => none
  | n248 + 1, x168 => (if x168 < (a0.length : Int) then (at? a0 x168).bind fun y308 => (at? a1 x168).bind fun y317 => (if (!decide (y308 = y317)) = true then some (.inl false) else swageref02_Ints.l0 a0 a1 n248 (IntKind.i64.wrap (x168 + 1))) else some (.inr ()))
def swageref02_Ints.f (a0 : (List Int)) (a1 : (List Int)) : Option Bool := (if (!decide ((a0.length : Int) = (a1.length : Int))) = true then some false else (swageref02_Ints.l0 a0 a1 (a0.length + 1) 0).bind fun | .inl q_ => some q_ | .inr _ => (some true))
def swageref02_Ints.post (G : Gd) (r : Bool) (v : Value) (G' : Gd) (Lr : List Ch) : Prop := G = G' ∧ v = .bool r ∧ Lr = []
theorem swageref02_Ints.calls {G : Gd} {r : Bool} {a0 : (List Int)} {a1 : (List Int)} {A1 : Option Addr} {c2 : Nat} {A5 : Option Addr} {c6 : Nat} (hr3 : Rd G (Kd.int .i64) A1 a0) (hl4 : a0.length ≤ c2) (hr7 : Rd G (Kd.int .i64) A5 a1) (hl8 : a1.length ≤ c6) (h : swageref02_Ints.f a0 a1 = some r) : Fn Try.prog 19 G [] [.slice A1 a0.length c2, .slice A5 a1.length c6] (swageref02_Ints.post G r) := by
  refine Fn.intro Try.func19 rfl Try.ntmps19 rfl (Nat.le_of_ble_eq_true rfl) (fun L => ?_)
  unfold swageref02_Ints.f at h
  refine TC.seq ?_
  refine TC.region ?_
  refine TL.cons (TO.val rfl rfl rfl (Val.assign rfl) ?_)
  refine TL.nil ?_
  refine TQ.then_ ?_
  refine TC.seq ?_
  refine TC.seq ?_
  refine TC.region ?_
  refine TL.cons (TO.val rfl rfl rfl (Val.move rfl) ?_)
  refine TL.cons (TO.val rfl rfl rfl (Val.len Try.underlying22 rfl) ?_)
  refine TL.cons (TO.val rfl rfl rfl (Val.move rfl) ?_)
  refine TL.cons (TO.val rfl rfl rfl (Val.len Try.underlying22 rfl) ?_)
  refine TL.cons (TO.val rfl rfl rfl (Val.cmp rfl rfl run_neq) ?_)
  refine TL.nil ?_
  refine TQ.then_ ?_
  refine TC.cond_b rfl h (fun hc10 h => ?_) (fun hc10 h => ?_)
  · refine TC.seq ?_
    refine TC.region ?_
    refine TL.cons (TO.val rfl rfl rfl (Val.assign rfl) ?_)
    refine TL.nil ?_
    refine TQ.then_ ?_
    refine TC.ret ?_
    refine TQ.thenR ?_
    obtain rfl := Option.some.inj h
    exact TQ.done (Ls := []) (.inl rfl) [] 0 Try.results19 (.tmp rfl .nil) rfl (Gd.le.refl _) rfl rfl rfl ⟨rfl, rfl, rfl⟩
  · refine TC.skip ?_
    refine TQ.then_ ?_
    refine TC.seq ?_
    refine TC.seq ?_
    refine TC.region ?_
    refine TL.cons (TO.val rfl rfl rfl (Val.assign rfl) ?_)
    refine TL.nil ?_
    refine TQ.then_ ?_
    obtain ⟨o247, ho247, ko247⟩ := bind_no h
    clear h
    refine TC.tail (fun a W => (.inr ()) = o247 ∧ Fr 26 a [] ∧ Own G (L) W) ?_ ?_
    · rintro a W ⟨rfl, hF, hO⟩
      have h := ko247
      clear ko247 ho247
      refine TQ.use ?_ hF hO
      clear hF hO
      refine TQ.then_ ?_
      refine TC.seq ?_
      refine TC.region ?_
      refine TL.cons (TO.val rfl rfl rfl (Val.assign rfl) ?_)
      refine TL.nil ?_
      refine TQ.then_ ?_
      refine TC.ret ?_
      obtain rfl := Option.some.inj h
      exact TQ.done (Ls := []) (.inl rfl) [] 0 Try.results19 (.tmp rfl .nil) rfl (Gd.le.refl _) rfl rfl rfl ⟨rfl, rfl, rfl⟩
    · refine TC.block ?_
      intro a W hF hO
      have hS : ∃ (x168 : Int), swageref02_Ints.l0 a0 a1 (a0.length + 1) x168 = some o247 ∧ Fr 26 a [(0, .slice A1 a0.length c2), (1, .slice A5 a1.length c6), (5, .int .i64 x168)] ∧ Own G (L) W := by
        exact ⟨0, ho247, hF.sub ⟨rfl, rfl, rfl, trivial⟩, hO.selT (Ls := []) [] 0 rfl rfl rfl⟩
      clear hF hO ho247
      refine TC.loop (fun n248 a W => ∃ (x168 : Int), swageref02_Ints.l0 a0 a1 n248 x168 = some o247 ∧ Fr 26 a [(0, .slice A1 a0.length c2), (1, .slice A5 a1.length c6), (5, .int .i64 x168)] ∧ Own G (L) W) ?_ ?_ hS
      · rintro a W ⟨x168, h, hF, hO⟩
        exact none_no h
      · clear hS
        rintro n248 a W ⟨x168, h, hF, hO⟩
        rw [swageref02_Ints.l0] at h
        refine TC.use ?_ hF hO
        clear hF hO
        refine TC.seq ?_
        refine TC.seq ?_
        refine TC.region ?_
        refine TL.cons (TO.val rfl rfl rfl (Val.move rfl) ?_)
        refine TL.cons (TO.val rfl rfl rfl (Val.move rfl) ?_)
        refine TL.cons (TO.val rfl rfl rfl (Val.len Try.underlying22 rfl) ?_)
        refine TL.cons (TO.val rfl rfl rfl (Val.cmp rfl rfl run_lss) ?_)
        refine TL.nil ?_
        refine TQ.then_ ?_
        refine TC.cond_p rfl h (fun hc251 h => ?_) (fun hc251 h => ?_)
        · refine TC.skip ?_
          refine TQ.then_ ?_
          refine TC.seq ?_
          refine TC.block ?_
          refine TC.seq ?_
          refine TC.regionAny [] mixed ?_
          refine TA.take 0 rfl (by kernel_rfl) rfl (PQ.then_ (PQ.inB (PQ.then_ (PQ.then_ (PQ.inB (PQ.then_ (PQ.then_ PQ.body))))))) rfl (Val.move rfl) (fun W hO => hO) ?_
          refine TA.take 1 rfl (by kernel_rfl) rfl (PQ.then_ (PQ.inB (PQ.then_ (PQ.then_ (PQ.inB (PQ.then_ (PQ.then_ PQ.body))))))) rfl (Val.move rfl) (fun W hO => hO) ?_
          obtain ⟨y308, hx309, h⟩ := bind_no h
          obtain ⟨ad310, cs316, hA311, hi312, hj313, hcl314, hK315⟩ := Rd.at hr3 hx309
          obtain rfl := RdK.int hK315
          refine TA.take 2 rfl (by kernel_rfl) rfl (PQ.then_ (PQ.inB (PQ.then_ (PQ.then_ (PQ.inB (PQ.then_ (PQ.then_ PQ.body))))))) rfl (Val.indexAddr Try.underlying22 sz3 rfl hA311 rfl hi312 hj313) (fun W hO => hO) ?_
          refine TA.take 3 rfl (by kernel_rfl) rfl (PQ.then_ (PQ.inB (PQ.then_ (PQ.then_ (PQ.inB (PQ.then_ (PQ.then_ PQ.body))))))) rfl (Val.loadS agg3 rfl (hcl314 0 _ rfl)) (fun W hO => hO) ?_
          refine TA.take 4 rfl (by kernel_rfl) rfl (PQ.then_ (PQ.inB (PQ.then_ (PQ.then_ (PQ.inB (PQ.then_ (PQ.then_ PQ.body))))))) rfl (Val.move rfl) (fun W hO => hO) ?_
          refine TA.take 5 rfl (by kernel_rfl) rfl (PQ.then_ (PQ.inB (PQ.then_ (PQ.then_ (PQ.inB (PQ.then_ (PQ.then_ PQ.body))))))) rfl (Val.move rfl) (fun W hO => hO) ?_
          obtain ⟨y317, hx318, h⟩ := bind_no h
          obtain ⟨ad319, cs325, hA320, hi321, hj322, hcl323, hK324⟩ := Rd.at hr7 hx318
          obtain rfl := RdK.int hK324
          refine TA.take 6 rfl (by kernel_rfl) rfl (PQ.then_ (PQ.inB (PQ.then_ (PQ.then_ (PQ.inB (PQ.then_ (PQ.then_ PQ.body))))))) rfl (Val.indexAddr Try.underlying22 sz3 rfl hA320 rfl hi321 hj322) (fun W hO => hO) ?_
          refine TA.take 7 rfl (by kernel_rfl) rfl (PQ.then_ (PQ.inB (PQ.then_ (PQ.then_ (PQ.inB (PQ.then_ (PQ.then_ PQ.body))))))) rfl (Val.loadS agg3 rfl (hcl323 0 _ rfl)) (fun W hO => hO) ?_
          refine TA.take 8 rfl (by kernel_rfl) rfl (PQ.then_ (PQ.inB (PQ.then_ (PQ.then_ (PQ.inB (PQ.then_ (PQ.then_ PQ.body))))))) rfl (Val.cmp rfl rfl run_neq) (fun W hO => hO) ?_
          refine TA.done (by kernel_rfl) ?_
          refine TQ.then_ ?_
          refine TC.cond_b rfl h (fun hc327 h => ?_) (fun hc327 h => ?_)
          · refine TC.seq ?_
            refine TC.region ?_
            refine TL.cons (TO.val rfl rfl rfl (Val.assign rfl) ?_)
            refine TL.nil ?_
            refine TQ.then_ ?_
            refine TC.ret ?_
            refine TQ.inBR ?_
            refine TQ.thenR ?_
            refine TQ.thenR ?_
            refine TQ.inBR ?_
            refine TQ.thenR ?_
            refine TQ.thenR ?_
            obtain rfl := Option.some.inj h
            have h := ko247
            obtain rfl := Option.some.inj h
            exact TQ.done (Ls := []) (.inl rfl) [] 0 Try.results19 (.tmp rfl .nil) rfl (Gd.le.refl _) rfl rfl rfl ⟨rfl, rfl, rfl⟩
          · refine TC.skip ?_
            refine TQ.inB ?_
            refine TQ.then_ ?_
            refine TC.region ?_
            refine TL.cons (TO.val rfl rfl rfl (Val.move rfl) ?_)
            refine TL.cons (TO.val rfl rfl rfl (Val.cmp rfl rfl run_add) ?_)
            refine TL.cons (TO.val rfl rfl rfl (Val.assign rfl) ?_)
            refine TL.nil ?_
            exact fun a W hF hO => ⟨IntKind.i64.wrap (x168 + 1), h, hF.sub ⟨rfl, rfl, rfl, trivial⟩, hO.selT (Ls := []) [] 0 rfl rfl rfl⟩
        · refine TC.exit ?_
          refine TQ.thenX ?_
          refine TQ.thenX ?_
          refine TQ.inBX ?_
          exact fun a W hF hO => ⟨Option.some.inj h, hF.sub trivial, hO.selT (Ls := []) [] 0 rfl rfl rfl⟩
end Go.Proofs.Ytmacdhkfgoahcaa.Sx
set_option linter.unusedVariables false
set_option linter.unusedSimpArgs false
set_option maxRecDepth 100000
set_option maxHeartbeats 4000000
namespace Go.Proofs.Ytmacdhkfgoahcaa.Sx
open Go Go.RowKit Go.Proofs.YtmacdhkfgoahcaaW.PrintWords Go.Proofs.Ytmacdhkfgoahcaa.Q
def swagelaw23_some.f : Option S28 := some (⟨([(⟨5, 0, 1, 2, 0, ([] : List Int)⟩ : S30), (⟨1, 3, 0, 0, 1, ([] : List Int)⟩ : S30), (⟨5, 0, 1, 3, 0, ([] : List Int)⟩ : S30)] : List S30), (⟨3, 3, 0, 0⟩ : S25)⟩ : S28)
def swagelaw23_some.post (G : Gd) (r : S28) (v : Value) (G' : Gd) (Lr : List Ch) : Prop := G = G' ∧ ∃ (A_1 : Option Addr) (c_1 : Nat), v = .agg #[.slice A_1 r.f0.length c_1, .int .i64 r.f1.f0, .int .i64 r.f1.f1, .int .i64 r.f1.f2, .int .i64 r.f1.f3] ∧ Lr = [Row k30 30 (.slice A_1 r.f0.length c_1) r.f0]
theorem swagelaw23_some.calls {G : Gd} {r : S28} (h : swagelaw23_some.f = some r) : Fn Try.prog 33 G [] [] (swagelaw23_some.post G r) := by
  refine Fn.intro Try.func33 rfl Try.ntmps33 rfl (Nat.le_of_ble_eq_true rfl) (fun L => ?_)
  unfold swagelaw23_some.f at h
  refine TC.seq ?_
  refine TC.region ?_
  refine TL.cons (TL.alloc (cs := [.slice none 0 0, .int .i64 0, .int .i64 0, .int .i64 0, .int .i64 0]) rfl rfl zr28 rfl (fun b1 => ?_))
  refine TL.nil ?_
  refine TQ.then_ ?_
  refine TC.seq ?_
  refine TC.region ?_
  refine TL.cons (TO.val rfl rfl rfl (Val.build (cs := [.int .i64 5, .int .i64 0, .int .i64 1, .int .i64 2, .int .i64 0, .slice none 0 0]) (is := [0, 2, 3]) (xs := [.const (.int .i64 5), .const (.int .i64 1), .const (.int .i64 2)]) Try.underlying30 zr30 bld30 rfl rfl rfl rfl) ?_)
  refine TL.cons (TO.val rfl rfl rfl (Val.build (cs := [.int .i64 1, .int .i64 3, .int .i64 0, .int .i64 0, .int .i64 1, .slice none 0 0]) (is := [0, 1, 4]) (xs := [.const (.int .i64 1), .const (.int .i64 3), .const (.int .i64 1)]) Try.underlying30 zr30 bld30 rfl rfl rfl rfl) ?_)
  refine TL.cons (TO.val rfl rfl rfl (Val.build (cs := [.int .i64 5, .int .i64 0, .int .i64 1, .int .i64 3, .int .i64 0, .slice none 0 0]) (is := [0, 2, 3]) (xs := [.const (.int .i64 5), .const (.int .i64 1), .const (.int .i64 3)]) Try.underlying30 zr30 bld30 rfl rfl rfl rfl) ?_)
  refine TL.cons (TL.buildSlice (xs := [.tmp 1, .tmp 2, .tmp 3]) (vs := [.agg #[.int .i64 5, .int .i64 0, .int .i64 1, .int .i64 2, .int .i64 0, .slice none 0 0], .agg #[.int .i64 1, .int .i64 3, .int .i64 0, .int .i64 0, .int .i64 1, .slice none 0 0], .agg #[.int .i64 5, .int .i64 0, .int .i64 1, .int .i64 3, .int .i64 0, .slice none 0 0]]) (cs := [.int .i64 5, .int .i64 0, .int .i64 1, .int .i64 2, .int .i64 0, .slice none 0 0, .int .i64 1, .int .i64 3, .int .i64 0, .int .i64 0, .int .i64 1, .slice none 0 0, .int .i64 5, .int .i64 0, .int .i64 1, .int .i64 3, .int .i64 0, .slice none 0 0]) rfl rfl Try.underlying26 zs30 rfl rfl rfl rfl rfl rfl rfl rfl (fun b2 => ?_))
  refine TL.cons (TO.val rfl rfl rfl (Val.build (cs := [.int .i64 3, .int .i64 3, .int .i64 0, .int .i64 0]) (is := [0, 1]) (xs := [.const (.int .i64 3), .const (.int .i64 3)]) Try.underlying25 zr25 bld25 rfl rfl rfl rfl) ?_)
  refine TL.cons (TO.val rfl rfl rfl (Val.build (cs := [.slice (some ⟨b2, 0, none⟩) 3 3, .int .i64 3, .int .i64 3, .int .i64 0, .int .i64 0]) (is := [0, 1]) (xs := [.tmp 4, .tmp 5]) Try.underlying28 zr28 bld28 rfl rfl rfl rfl) ?_)
  refine TL.cons (TL.store 1 (ds := [.slice (some ⟨b2, 0, none⟩) 3 3, .int .i64 3, .int .i64 3, .int .i64 0, .int .i64 0]) (cs' := [.slice (some ⟨b2, 0, none⟩) 3 3, .int .i64 3, .int .i64 3, .int .i64 0, .int .i64 0]) (L' := (Blk b2 [.int .i64 5, .int .i64 0, .int .i64 1, .int .i64 2, .int .i64 0, .slice none 0 0, .int .i64 1, .int .i64 3, .int .i64 0, .int .i64 0, .int .i64 1, .slice none 0 0, .int .i64 5, .int .i64 0, .int .i64 1, .int .i64 3, .int .i64 0, .slice none 0 0] 30 :: Blk b1 [.slice (some ⟨b2, 0, none⟩) 3 3, .int .i64 3, .int .i64 3, .int .i64 0, .int .i64 0] 28 :: L)) rfl sz28 rfl rfl rfl rfl rfl (Nat.le_of_ble_eq_true rfl) rfl rfl ?_)
  refine TL.nil ?_
  refine TQ.then_ ?_
  refine TC.ret ?_
  refine TQ.new (Els.nil k30) ?_
  refine TQ.new (Row.nil (Kd.int .i64) 3) ?_
  refine TQ.conv (ch' := El k30 (⟨5, 0, 1, 2, 0, ([] : List Int)⟩ : S30) [.int .i64 5, .int .i64 0, .int .i64 1, .int .i64 2, .int .i64 0, .slice none 0 0]) (fun B W F hh => k30_mkM W B F (⟨5, 0, 1, 2, 0, ([] : List Int)⟩ : S30) hh) ?_
  refine TQ.sel (Ls := [Els k30 [] [], El k30 (⟨5, 0, 1, 2, 0, ([] : List Int)⟩ : S30) [.int .i64 5, .int .i64 0, .int .i64 1, .int .i64 2, .int .i64 0, .slice none 0 0], Blk b2 [.int .i64 5, .int .i64 0, .int .i64 1, .int .i64 2, .int .i64 0, .slice none 0 0, .int .i64 1, .int .i64 3, .int .i64 0, .int .i64 0, .int .i64 1, .slice none 0 0, .int .i64 5, .int .i64 0, .int .i64 1, .int .i64 3, .int .i64 0, .slice none 0 0] 30, Blk b1 [.slice (some ⟨b2, 0, none⟩) 3 3, .int .i64 3, .int .i64 3, .int .i64 0, .int .i64 0] 28]) [1, 0, 2, 3] 4 rfl rfl rfl ?_
  refine TQ.two (ch := Els k30 [(⟨5, 0, 1, 2, 0, ([] : List Int)⟩ : S30)] [.int .i64 5, .int .i64 0, .int .i64 1, .int .i64 2, .int .i64 0, .slice none 0 0]) (Els.snoc k30) ?_
  refine TQ.new (Row.nil (Kd.int .i64) 3) ?_
  refine TQ.conv (ch' := El k30 (⟨1, 3, 0, 0, 1, ([] : List Int)⟩ : S30) [.int .i64 1, .int .i64 3, .int .i64 0, .int .i64 0, .int .i64 1, .slice none 0 0]) (fun B W F hh => k30_mkM W B F (⟨1, 3, 0, 0, 1, ([] : List Int)⟩ : S30) hh) ?_
  refine TQ.sel (Ls := [Els k30 [(⟨5, 0, 1, 2, 0, ([] : List Int)⟩ : S30)] [.int .i64 5, .int .i64 0, .int .i64 1, .int .i64 2, .int .i64 0, .slice none 0 0], El k30 (⟨1, 3, 0, 0, 1, ([] : List Int)⟩ : S30) [.int .i64 1, .int .i64 3, .int .i64 0, .int .i64 0, .int .i64 1, .slice none 0 0], Blk b2 [.int .i64 5, .int .i64 0, .int .i64 1, .int .i64 2, .int .i64 0, .slice none 0 0, .int .i64 1, .int .i64 3, .int .i64 0, .int .i64 0, .int .i64 1, .slice none 0 0, .int .i64 5, .int .i64 0, .int .i64 1, .int .i64 3, .int .i64 0, .slice none 0 0] 30, Blk b1 [.slice (some ⟨b2, 0, none⟩) 3 3, .int .i64 3, .int .i64 3, .int .i64 0, .int .i64 0] 28]) [1, 0, 2, 3] 4 rfl rfl rfl ?_
  refine TQ.two (ch := Els k30 [(⟨5, 0, 1, 2, 0, ([] : List Int)⟩ : S30), (⟨1, 3, 0, 0, 1, ([] : List Int)⟩ : S30)] [.int .i64 5, .int .i64 0, .int .i64 1, .int .i64 2, .int .i64 0, .slice none 0 0, .int .i64 1, .int .i64 3, .int .i64 0, .int .i64 0, .int .i64 1, .slice none 0 0]) (Els.snoc k30) ?_
  refine TQ.new (Row.nil (Kd.int .i64) 3) ?_
  refine TQ.conv (ch' := El k30 (⟨5, 0, 1, 3, 0, ([] : List Int)⟩ : S30) [.int .i64 5, .int .i64 0, .int .i64 1, .int .i64 3, .int .i64 0, .slice none 0 0]) (fun B W F hh => k30_mkM W B F (⟨5, 0, 1, 3, 0, ([] : List Int)⟩ : S30) hh) ?_
  refine TQ.sel (Ls := [Els k30 [(⟨5, 0, 1, 2, 0, ([] : List Int)⟩ : S30), (⟨1, 3, 0, 0, 1, ([] : List Int)⟩ : S30)] [.int .i64 5, .int .i64 0, .int .i64 1, .int .i64 2, .int .i64 0, .slice none 0 0, .int .i64 1, .int .i64 3, .int .i64 0, .int .i64 0, .int .i64 1, .slice none 0 0], El k30 (⟨5, 0, 1, 3, 0, ([] : List Int)⟩ : S30) [.int .i64 5, .int .i64 0, .int .i64 1, .int .i64 3, .int .i64 0, .slice none 0 0], Blk b2 [.int .i64 5, .int .i64 0, .int .i64 1, .int .i64 2, .int .i64 0, .slice none 0 0, .int .i64 1, .int .i64 3, .int .i64 0, .int .i64 0, .int .i64 1, .slice none 0 0, .int .i64 5, .int .i64 0, .int .i64 1, .int .i64 3, .int .i64 0, .slice none 0 0] 30, Blk b1 [.slice (some ⟨b2, 0, none⟩) 3 3, .int .i64 3, .int .i64 3, .int .i64 0, .int .i64 0] 28]) [1, 0, 2, 3] 4 rfl rfl rfl ?_
  refine TQ.two (ch := Els k30 [(⟨5, 0, 1, 2, 0, ([] : List Int)⟩ : S30), (⟨1, 3, 0, 0, 1, ([] : List Int)⟩ : S30), (⟨5, 0, 1, 3, 0, ([] : List Int)⟩ : S30)] [.int .i64 5, .int .i64 0, .int .i64 1, .int .i64 2, .int .i64 0, .slice none 0 0, .int .i64 1, .int .i64 3, .int .i64 0, .int .i64 0, .int .i64 1, .slice none 0 0, .int .i64 5, .int .i64 0, .int .i64 1, .int .i64 3, .int .i64 0, .slice none 0 0]) (Els.snoc k30) ?_
  refine TQ.sel (Ls := [Blk b2 [.int .i64 5, .int .i64 0, .int .i64 1, .int .i64 2, .int .i64 0, .slice none 0 0, .int .i64 1, .int .i64 3, .int .i64 0, .int .i64 0, .int .i64 1, .slice none 0 0, .int .i64 5, .int .i64 0, .int .i64 1, .int .i64 3, .int .i64 0, .slice none 0 0] 30, Els k30 [(⟨5, 0, 1, 2, 0, ([] : List Int)⟩ : S30), (⟨1, 3, 0, 0, 1, ([] : List Int)⟩ : S30), (⟨5, 0, 1, 3, 0, ([] : List Int)⟩ : S30)] [.int .i64 5, .int .i64 0, .int .i64 1, .int .i64 2, .int .i64 0, .slice none 0 0, .int .i64 1, .int .i64 3, .int .i64 0, .int .i64 0, .int .i64 1, .slice none 0 0, .int .i64 5, .int .i64 0, .int .i64 1, .int .i64 3, .int .i64 0, .slice none 0 0], Blk b1 [.slice (some ⟨b2, 0, none⟩) 3 3, .int .i64 3, .int .i64 3, .int .i64 0, .int .i64 0] 28]) [1, 0, 2] 3 rfl rfl rfl ?_
  refine TQ.two (ch := Row k30 30 (.slice (some ⟨b2, 0, none⟩) 3 3) ([(⟨5, 0, 1, 2, 0, ([] : List Int)⟩ : S30), (⟨1, 3, 0, 0, 1, ([] : List Int)⟩ : S30), (⟨5, 0, 1, 3, 0, ([] : List Int)⟩ : S30)] : List S30)) (Row.lit k30 rfl rfl) ?_
  obtain rfl := Option.some.inj h
  exact TQ.done (Ls := [Row k30 30 (.slice (some ⟨b2, 0, none⟩) 3 3) ([(⟨5, 0, 1, 2, 0, ([] : List Int)⟩ : S30), (⟨1, 3, 0, 0, 1, ([] : List Int)⟩ : S30), (⟨5, 0, 1, 3, 0, ([] : List Int)⟩ : S30)] : List S30)]) (.inl rfl) [0] 2 Try.results33 (.cells 1 rfl rfl agg28 sz28 .nil) rfl (Gd.le.refl _) rfl rfl rfl ⟨rfl, (some ⟨b2, 0, none⟩), 3, rfl, rfl⟩
end Go.Proofs.Ytmacdhkfgoahcaa.Sx
set_option linter.unusedVariables false
set_option linter.unusedSimpArgs false
set_option maxRecDepth 100000
set_option maxHeartbeats 4000000
namespace Go.Proofs.Ytmacdhkfgoahcaa.Sx
open Go Go.RowKit Go.Proofs.YtmacdhkfgoahcaaW.PrintWords Go.Proofs.Ytmacdhkfgoahcaa.Q
def swagelaw23_small.f : Option Bool := (swagelaw23_some.f).bind fun (y1 : S28) => (deadstore_Block.f y1).bind fun (y12 : S28) => (swagelaw23_some.f).bind fun (y109 : S28) => (deadstore_Dead.f y109).bind fun (y120 : (List Int)) => (swageref02_Ints.f y120 ([0] : List Int)).bind fun (y139 : Bool) => (if y139 = true then (if (y12.f0.length : Int) = 2 then (at? y12.f0 0).bind fun y151 => (if y151.f0 = 1 then (at? y12.f0 1).bind fun y166 => (if y166.f3 = 3 then (swagelaw23_some.f).bind fun (y181 : S28) => (deadstore_Stores.f (⟨0, ([y181] : List S28)⟩ : S36)).bind fun (y194 : Int) => some (decide (y194 = 2)) else some false) else some false) else some false) else some false)
def swagelaw23_small.post (G : Gd) (r : Bool) (v : Value) (G' : Gd) (Lr : List Ch) : Prop := G = G' ∧ v = .bool r ∧ Lr = []
theorem swagelaw23_small.calls {G : Gd} {r : Bool} (h : swagelaw23_small.f = some r) : Fn Try.prog 9 G [] [] (swagelaw23_small.post G r) := by
  refine Fn.intro Try.func9 rfl Try.ntmps9 rfl (Nat.le_of_ble_eq_true rfl) (fun L => ?_)
  unfold swagelaw23_small.f at h
  refine TC.seq ?_
  refine TC.region ?_
  refine TL.cons (TO.val rfl rfl rfl (Val.assign rfl) ?_)
  refine TL.nil ?_
  refine TQ.then_ ?_
  refine TC.seq ?_
  refine TC.region ?_
  obtain ⟨y1, hy2, h⟩ := bind_no h
  refine TL.cons (TL.callV (Lin := []) (args := []) rfl rfl rfl hb33 rfl rfl (swagelaw23_some.calls hy2) rfl ?_)
  rintro _ _ _ _ ⟨rfl, A3, c4, rfl, rfl⟩
  refine TK.share (fun G6 e7 hs8 hb9 => ?_)
  have rd10 : Rd G6 k30 A3 y1.f0 := Rd.row hs8
  have le11 : y1.f0.length ≤ c4 := Row.le hs8
  obtain ⟨y12, hy13, h⟩ := bind_no h
  refine TL.cons (TL.callV (Lin := []) (args := [.agg #[.slice A3 y1.f0.length c4, .int .i64 y1.f1.f0, .int .i64 y1.f1.f1, .int .i64 y1.f1.f2, .int .i64 y1.f1.f3]]) rfl rfl rfl hb11 rfl rfl (deadstore_Block.calls (a0 := y1) rd10 le11 hy13) rfl ?_)
  rintro _ _ _ _ ⟨rfl, A14, c15, rfl, rfl⟩
  refine TL.cons (TL.alloc (cs := [.slice none 0 0, .int .i64 0, .int .i64 0, .int .i64 0, .int .i64 0]) rfl rfl zr28 rfl (fun b17 => ?_))
  refine TL.cons (TL.store 0 (ds := [.slice A14 y12.f0.length c15, .int .i64 y12.f1.f0, .int .i64 y12.f1.f1, .int .i64 y12.f1.f2, .int .i64 y12.f1.f3]) (cs' := [.slice A14 y12.f0.length c15, .int .i64 y12.f1.f0, .int .i64 y12.f1.f1, .int .i64 y12.f1.f2, .int .i64 y12.f1.f3]) (L' := (Blk b17 [.slice A14 y12.f0.length c15, .int .i64 y12.f1.f0, .int .i64 y12.f1.f1, .int .i64 y12.f1.f2, .int .i64 y12.f1.f3] 28 :: Row k30 30 (.slice A14 y12.f0.length c15) y12.f0 :: L)) rfl sz28 rfl rfl rfl rfl rfl (Nat.le_of_ble_eq_true rfl) rfl rfl ?_)
  refine TL.nil ?_
  refine TQ.then_ ?_
  refine TC.seq ?_
  refine TC.back hb9 ?_
  refine TC.region ?_
  obtain ⟨y109, hy110, h⟩ := bind_no h
  refine TL.cons (TL.callV (Lin := []) (args := []) rfl rfl rfl hb33 rfl rfl (swagelaw23_some.calls hy110) rfl ?_)
  rintro _ _ _ _ ⟨rfl, A111, c112, rfl, rfl⟩
  refine TK.share (fun G114 e115 hs116 hb117 => ?_)
  have rd118 : Rd G114 k30 A111 y109.f0 := Rd.row hs116
  have le119 : y109.f0.length ≤ c112 := Row.le hs116
  obtain ⟨y120, hy121, h⟩ := bind_no h
  refine TL.cons (TL.callV (Lin := []) (args := [.agg #[.slice A111 y109.f0.length c112, .int .i64 y109.f1.f0, .int .i64 y109.f1.f1, .int .i64 y109.f1.f2, .int .i64 y109.f1.f3]]) rfl rfl rfl hb10 rfl rfl (deadstore_Dead.calls (a0 := y109) rd118 le119 hy121) rfl ?_)
  rintro _ _ _ _ ⟨rfl, A122, c123, rfl, rfl⟩
  refine TL.cons (TL.buildSlice (xs := [.const (.int .i64 0)]) (vs := [.int .i64 0]) (cs := [.int .i64 0]) rfl rfl Try.underlying22 zs3 rfl rfl rfl rfl rfl rfl rfl rfl (fun b125 => ?_))
  refine TK.sel (Ls := [Row (Kd.int .i64) 3 (.slice A122 y120.length c123) y120, Blk b125 [.int .i64 0] 3, Row k30 30 (.slice A3 y1.f0.length c4) y1.f0, Blk b17 [.slice A14 y12.f0.length c15, .int .i64 y12.f1.f0, .int .i64 y12.f1.f1, .int .i64 y12.f1.f2, .int .i64 y12.f1.f3] 28, Row k30 30 (.slice A14 y12.f0.length c15) y12.f0]) [1, 0, 2, 3, 4] 5 rfl rfl rfl ?_
  refine TK.share (fun G126 e127 hs128 hb129 => ?_)
  have rd130 : Rd G126 (Kd.int .i64) A122 y120 := Rd.row hs128
  have le131 : y120.length ≤ c123 := Row.le hs128
  refine TK.new (Els.nil (Kd.int .i64)) ?_
  refine TK.new (El.of (k := (Kd.int .i64)) (xv := 0) (cs := [.int .i64 0]) (fun W B => rfl)) ?_
  refine TK.sel (Ls := [Els (Kd.int .i64) [] [], El (Kd.int .i64) 0 [.int .i64 0], Blk b125 [.int .i64 0] 3, Row k30 30 (.slice A3 y1.f0.length c4) y1.f0, Blk b17 [.slice A14 y12.f0.length c15, .int .i64 y12.f1.f0, .int .i64 y12.f1.f1, .int .i64 y12.f1.f2, .int .i64 y12.f1.f3] 28, Row k30 30 (.slice A14 y12.f0.length c15) y12.f0]) [1, 0, 2, 3, 4, 5] 6 rfl rfl rfl ?_
  refine TK.two (ch := Els (Kd.int .i64) [0] [.int .i64 0]) (Els.snoc (Kd.int .i64)) ?_
  refine TK.sel (Ls := [Blk b125 [.int .i64 0] 3, Els (Kd.int .i64) [0] [.int .i64 0], Row k30 30 (.slice A3 y1.f0.length c4) y1.f0, Blk b17 [.slice A14 y12.f0.length c15, .int .i64 y12.f1.f0, .int .i64 y12.f1.f1, .int .i64 y12.f1.f2, .int .i64 y12.f1.f3] 28, Row k30 30 (.slice A14 y12.f0.length c15) y12.f0]) [1, 0, 2, 3, 4] 5 rfl rfl rfl ?_
  refine TK.two (ch := Row (Kd.int .i64) 3 (.slice (some ⟨b125, 0, none⟩) 1 1) ([0] : List Int)) (Row.lit (Kd.int .i64) rfl rfl) ?_
  refine TK.share (fun G133 e134 hs135 hb136 => ?_)
  have rd137 : Rd G133 (Kd.int .i64) (some ⟨b125, 0, none⟩) ([0] : List Int) := Rd.row hs135
  have le138 : ([0] : List Int).length ≤ 1 := Row.le hs135
  obtain ⟨y139, hy140, h⟩ := bind_no h
  refine TL.cons (TL.callV (Lin := []) (args := [.slice A122 y120.length c123, .slice (some ⟨b125, 0, none⟩) 1 1]) rfl rfl rfl hb19 rfl rfl (swageref02_Ints.calls (a0 := y120) (a1 := ([0] : List Int)) (rd130.up e134) le131 rd137 le138 hy140) rfl ?_)
  rintro _ _ _ _ ⟨rfl, rfl, rfl⟩
  refine TL.cons (TO.val rfl rfl rfl (Val.move rfl) ?_)
  refine TK.split (p := y139 = true) h (fun hg141 h => ?_) (fun hg141 h => ?_)
  · have hk142 : y139 = true := hg141
    refine TL.cons (TO.val (Wt.yes rfl rfl rfl hk142) rfl rfl (Val.fieldAddrB Try.underlying28 rfl sz26 rfl rfl rfl) ?_)
    refine TL.cons (TO.val (Wt.yes rfl rfl rfl hk142) rfl rfl (Val.loadB 1 agg26 rfl rfl rfl) ?_)
    refine TL.cons (TO.val (Wt.yes rfl rfl rfl hk142) rfl rfl (Val.len Try.underlying26 rfl) ?_)
    refine TL.cons (TO.val (Wt.yes rfl rfl rfl hk142) rfl rfl (Val.cmp rfl rfl run_eql) ?_)
    refine TL.cons (TO.val rfl rfl rfl (Val.pickY rfl hk142 rfl) ?_)
    refine TL.cons (TO.val rfl rfl rfl (Val.move rfl) ?_)
    refine TK.split (p := (y12.f0.length : Int) = 2) h (fun hg143 h => ?_) (fun hg143 h => ?_)
    · have hk144 : decide ((y12.f0.length : Int) = 2) = true := decide_eq_true hg143
      refine TL.cons (TO.val (Wt.yes rfl rfl rfl hk144) rfl rfl (Val.fieldAddrB Try.underlying28 rfl sz26 rfl rfl rfl) ?_)
      refine TL.cons (TO.val (Wt.yes rfl rfl rfl hk144) rfl rfl (Val.loadB 1 agg26 rfl rfl rfl) ?_)
      refine TK.sel (Ls := [Row k30 30 (.slice A14 y12.f0.length c15) y12.f0, Row k30 30 (.slice A3 y1.f0.length c4) y1.f0, Blk b17 [.slice A14 y12.f0.length c15, .int .i64 y12.f1.f0, .int .i64 y12.f1.f1, .int .i64 y12.f1.f2, .int .i64 y12.f1.f3] 28]) [2, 0, 1] 3 rfl rfl rfl ?_
      refine TK.share (fun G145 e146 hs147 hb148 => ?_)
      have rd149 : Rd G145 k30 A14 y12.f0 := Rd.row hs147
      have le150 : y12.f0.length ≤ c15 := Row.le hs147
      obtain ⟨y151, hx152, h⟩ := bind_no h
      obtain ⟨ad153, cs159, hA154, hi155, hj156, hcl157, hK158⟩ := Rd.at rd149 hx152
      obtain ⟨A160, c161, rfl, hr162, hl163⟩ := k30_openR hK158
      refine TL.cons (TO.val (Wt.yes rfl rfl rfl hk144) rfl rfl (Val.indexAddr Try.underlying26 sz30 rfl hA154 rfl hi155 hj156) ?_)
      refine TL.cons (TO.val (Wt.yes rfl rfl rfl hk144) rfl rfl (Val.fieldAddrE Try.underlying30 rfl sz3 rfl rfl) ?_)
      refine TL.cons (TO.val (Wt.yes rfl rfl rfl hk144) rfl rfl (Val.loadS agg3 rfl (hcl157 0 _ rfl)) ?_)
      refine TL.cons (TO.val (Wt.yes rfl rfl rfl hk144) rfl rfl (Val.cmp rfl rfl run_eql) ?_)
      refine TL.cons (TO.val rfl rfl rfl (Val.pickY rfl hk144 rfl) ?_)
      refine TL.cons (TO.val rfl rfl rfl (Val.move rfl) ?_)
      refine TK.split (p := y151.f0 = 1) h (fun hg164 h => ?_) (fun hg164 h => ?_)
      · have hk165 : decide (y151.f0 = 1) = true := decide_eq_true hg164
        refine TL.cons (TO.val (Wt.yes rfl rfl rfl hk165) rfl rfl (Val.fieldAddrB Try.underlying28 rfl sz26 rfl rfl rfl) ?_)
        refine TL.cons (TO.val (Wt.yes rfl rfl rfl hk165) rfl rfl (Val.loadB 1 agg26 rfl rfl rfl) ?_)
        obtain ⟨y166, hx167, h⟩ := bind_no h
        obtain ⟨ad168, cs174, hA169, hi170, hj171, hcl172, hK173⟩ := Rd.at rd149 hx167
        obtain ⟨A175, c176, rfl, hr177, hl178⟩ := k30_openR hK173
        refine TL.cons (TO.val (Wt.yes rfl rfl rfl hk165) rfl rfl (Val.indexAddr Try.underlying26 sz30 rfl hA169 rfl hi170 hj171) ?_)
        refine TL.cons (TO.val (Wt.yes rfl rfl rfl hk165) rfl rfl (Val.fieldAddrE Try.underlying30 rfl sz3 rfl rfl) ?_)
        refine TL.cons (TO.val (Wt.yes rfl rfl rfl hk165) rfl rfl (Val.loadS agg3 rfl (hcl172 3 _ rfl)) ?_)
        refine TL.cons (TO.val (Wt.yes rfl rfl rfl hk165) rfl rfl (Val.cmp rfl rfl run_eql) ?_)
        refine TL.cons (TO.val rfl rfl rfl (Val.pickY rfl hk165 rfl) ?_)
        refine TL.cons (TO.val rfl rfl rfl (Val.move rfl) ?_)
        refine TK.split (p := y166.f3 = 3) h (fun hg179 h => ?_) (fun hg179 h => ?_)
        · have hk180 : decide (y166.f3 = 3) = true := decide_eq_true hg179
          obtain ⟨y181, hy182, h⟩ := bind_no h
          refine TL.cons (TL.callV (Lin := []) (args := []) (Wt.yes rfl rfl rfl hk180) rfl rfl hb33 rfl rfl (swagelaw23_some.calls hy182) rfl ?_)
          rintro _ _ _ _ ⟨rfl, A183, c184, rfl, rfl⟩
          refine TL.cons (TL.buildSlice (xs := [.tmp 31]) (vs := [.agg #[.slice A183 y181.f0.length c184, .int .i64 y181.f1.f0, .int .i64 y181.f1.f1, .int .i64 y181.f1.f2, .int .i64 y181.f1.f3]]) (cs := [.slice A183 y181.f0.length c184, .int .i64 y181.f1.f0, .int .i64 y181.f1.f1, .int .i64 y181.f1.f2, .int .i64 y181.f1.f3]) (Wt.yes rfl rfl rfl hk180) rfl Try.underlying34 zs28 rfl rfl rfl rfl rfl rfl rfl rfl (fun b186 => ?_))
          refine TL.cons (TO.val (Wt.yes rfl rfl rfl hk180) rfl rfl (Val.build (cs := [.int .i64 0, .slice (some ⟨b186, 0, none⟩) 1 1]) (is := [1]) (xs := [.tmp 32]) Try.underlying36 zr36 bld36 rfl rfl rfl rfl) ?_)
          refine TK.new (Els.nil k28) ?_
          refine TK.sel (Ls := [Row k30 30 (.slice A183 y181.f0.length c184) y181.f0, Els k28 [] [], Blk b186 [.slice A183 y181.f0.length c184, .int .i64 y181.f1.f0, .int .i64 y181.f1.f1, .int .i64 y181.f1.f2, .int .i64 y181.f1.f3] 28, Row k30 30 (.slice A3 y1.f0.length c4) y1.f0, Blk b17 [.slice A14 y12.f0.length c15, .int .i64 y12.f1.f0, .int .i64 y12.f1.f1, .int .i64 y12.f1.f2, .int .i64 y12.f1.f3] 28]) [2, 0, 1, 3, 4] 5 rfl rfl rfl ?_
          refine TK.conv (ch' := El k28 y181 [.slice A183 y181.f0.length c184, .int .i64 y181.f1.f0, .int .i64 y181.f1.f1, .int .i64 y181.f1.f2, .int .i64 y181.f1.f3]) (fun B W F hh => k28_mkM W B F y181 hh) ?_
          refine TK.sel (Ls := [Els k28 [] [], El k28 y181 [.slice A183 y181.f0.length c184, .int .i64 y181.f1.f0, .int .i64 y181.f1.f1, .int .i64 y181.f1.f2, .int .i64 y181.f1.f3], Blk b186 [.slice A183 y181.f0.length c184, .int .i64 y181.f1.f0, .int .i64 y181.f1.f1, .int .i64 y181.f1.f2, .int .i64 y181.f1.f3] 28, Row k30 30 (.slice A3 y1.f0.length c4) y1.f0, Blk b17 [.slice A14 y12.f0.length c15, .int .i64 y12.f1.f0, .int .i64 y12.f1.f1, .int .i64 y12.f1.f2, .int .i64 y12.f1.f3] 28]) [1, 0, 2, 3, 4] 5 rfl rfl rfl ?_
          refine TK.two (ch := Els k28 [y181] [.slice A183 y181.f0.length c184, .int .i64 y181.f1.f0, .int .i64 y181.f1.f1, .int .i64 y181.f1.f2, .int .i64 y181.f1.f3]) (Els.snoc k28) ?_
          refine TK.sel (Ls := [Blk b186 [.slice A183 y181.f0.length c184, .int .i64 y181.f1.f0, .int .i64 y181.f1.f1, .int .i64 y181.f1.f2, .int .i64 y181.f1.f3] 28, Els k28 [y181] [.slice A183 y181.f0.length c184, .int .i64 y181.f1.f0, .int .i64 y181.f1.f1, .int .i64 y181.f1.f2, .int .i64 y181.f1.f3], Row k30 30 (.slice A3 y1.f0.length c4) y1.f0, Blk b17 [.slice A14 y12.f0.length c15, .int .i64 y12.f1.f0, .int .i64 y12.f1.f1, .int .i64 y12.f1.f2, .int .i64 y12.f1.f3] 28]) [1, 0, 2, 3] 4 rfl rfl rfl ?_
          refine TK.two (ch := Row k28 28 (.slice (some ⟨b186, 0, none⟩) 1 1) ([y181] : List S28)) (Row.lit k28 rfl rfl) ?_
          refine TK.share (fun G188 e189 hs190 hb191 => ?_)
          have rd192 : Rd G188 k28 (some ⟨b186, 0, none⟩) ([y181] : List S28) := Rd.row hs190
          have le193 : ([y181] : List S28).length ≤ 1 := Row.le hs190
          obtain ⟨y194, hy195, h⟩ := bind_no h
          refine TL.cons (TL.callV (Lin := []) (args := [.agg #[.int .i64 0, .slice (some ⟨b186, 0, none⟩) 1 1]]) (Wt.yes rfl rfl rfl hk180) rfl rfl hb12 rfl rfl (deadstore_Stores.calls (a0 := (⟨0, ([y181] : List S28)⟩ : S36)) rd192 le193 hy195) rfl ?_)
          rintro _ _ _ _ ⟨rfl, rfl, rfl⟩
          refine TL.cons (TO.val (Wt.yes rfl rfl rfl hk180) rfl rfl (Val.cmp rfl rfl run_eql) ?_)
          refine TL.cons (TO.val rfl rfl rfl (Val.pickY rfl hk180 rfl) ?_)
          refine TL.cons (TO.val rfl rfl rfl (Val.assign rfl) ?_)
          refine TL.nil ?_
          refine TQ.then_ ?_
          refine TC.ret ?_
          refine TQ.back hb191 ?_
          refine TQ.back hb148 ?_
          refine TQ.back hb136 ?_
          refine TQ.back hb129 ?_
          refine TQ.back hb117 ?_
          obtain rfl := Option.some.inj h
          exact TQ.done (Ls := []) (.inl rfl) [] 7 Try.results9 (.tmp rfl .nil) rfl (Gd.le.refl _) rfl rfl rfl ⟨rfl, rfl, rfl⟩
        · have hk196 : decide (y166.f3 = 3) = false := decide_eq_false hg179
          refine TL.cons (TL.not (Wt.no rfl rfl rfl hk196) rfl ?_)
          refine TL.cons (TL.not (Wt.no rfl rfl rfl hk196) rfl ?_)
          refine TL.cons (TL.not (Wt.no rfl rfl rfl hk196) rfl ?_)
          refine TL.cons (TL.not (Wt.no rfl rfl rfl hk196) rfl ?_)
          refine TL.cons (TL.not (Wt.no rfl rfl rfl hk196) rfl ?_)
          refine TL.cons (TO.val rfl rfl rfl (Val.pickN rfl hk196 rfl) ?_)
          refine TL.cons (TO.val rfl rfl rfl (Val.assign rfl) ?_)
          refine TL.nil ?_
          refine TQ.then_ ?_
          refine TC.ret ?_
          refine TQ.back hb148 ?_
          refine TQ.back hb136 ?_
          refine TQ.back hb129 ?_
          refine TQ.back hb117 ?_
          obtain rfl := Option.some.inj h
          exact TQ.done (Ls := []) (.inl rfl) [] 6 Try.results9 (.tmp rfl .nil) rfl (Gd.le.refl _) rfl rfl rfl ⟨rfl, rfl, rfl⟩
      · have hk197 : decide (y151.f0 = 1) = false := decide_eq_false hg164
        refine TL.cons (TL.not (Wt.no rfl rfl rfl hk197) rfl ?_)
        refine TL.cons (TL.not (Wt.no rfl rfl rfl hk197) rfl ?_)
        refine TL.cons (TL.not (Wt.no rfl rfl rfl hk197) rfl ?_)
        refine TL.cons (TL.not (Wt.no rfl rfl rfl hk197) rfl ?_)
        refine TL.cons (TL.not (Wt.no rfl rfl rfl hk197) rfl ?_)
        refine TL.cons (TL.not (Wt.no rfl rfl rfl hk197) rfl ?_)
        refine TL.cons (TO.val rfl rfl rfl (Val.pickN rfl hk197 rfl) ?_)
        refine TL.cons (TO.val rfl rfl rfl (Val.move rfl) ?_)
        refine TL.cons (TL.not (Wt.no rfl rfl rfl rfl) rfl ?_)
        refine TL.cons (TL.not (Wt.no rfl rfl rfl rfl) rfl ?_)
        refine TL.cons (TL.not (Wt.no rfl rfl rfl rfl) rfl ?_)
        refine TL.cons (TL.not (Wt.no rfl rfl rfl rfl) rfl ?_)
        refine TL.cons (TL.not (Wt.no rfl rfl rfl rfl) rfl ?_)
        refine TL.cons (TO.val rfl rfl rfl (Val.pickN rfl rfl rfl) ?_)
        refine TL.cons (TO.val rfl rfl rfl (Val.assign rfl) ?_)
        refine TL.nil ?_
        refine TQ.then_ ?_
        refine TC.ret ?_
        refine TQ.back hb148 ?_
        refine TQ.back hb136 ?_
        refine TQ.back hb129 ?_
        refine TQ.back hb117 ?_
        obtain rfl := Option.some.inj h
        exact TQ.done (Ls := []) (.inl rfl) [] 6 Try.results9 (.tmp rfl .nil) rfl (Gd.le.refl _) rfl rfl rfl ⟨rfl, rfl, rfl⟩
    · have hk198 : decide ((y12.f0.length : Int) = 2) = false := decide_eq_false hg143
      refine TL.cons (TL.not (Wt.no rfl rfl rfl hk198) rfl ?_)
      refine TL.cons (TL.not (Wt.no rfl rfl rfl hk198) rfl ?_)
      refine TL.cons (TL.not (Wt.no rfl rfl rfl hk198) rfl ?_)
      refine TL.cons (TL.not (Wt.no rfl rfl rfl hk198) rfl ?_)
      refine TL.cons (TL.not (Wt.no rfl rfl rfl hk198) rfl ?_)
      refine TL.cons (TL.not (Wt.no rfl rfl rfl hk198) rfl ?_)
      refine TL.cons (TO.val rfl rfl rfl (Val.pickN rfl hk198 rfl) ?_)
      refine TL.cons (TO.val rfl rfl rfl (Val.move rfl) ?_)
      refine TL.cons (TL.not (Wt.no rfl rfl rfl rfl) rfl ?_)
      refine TL.cons (TL.not (Wt.no rfl rfl rfl rfl) rfl ?_)
      refine TL.cons (TL.not (Wt.no rfl rfl rfl rfl) rfl ?_)
      refine TL.cons (TL.not (Wt.no rfl rfl rfl rfl) rfl ?_)
      refine TL.cons (TL.not (Wt.no rfl rfl rfl rfl) rfl ?_)
      refine TL.cons (TL.not (Wt.no rfl rfl rfl rfl) rfl ?_)
      refine TL.cons (TO.val rfl rfl rfl (Val.pickN rfl rfl rfl) ?_)
      refine TL.cons (TO.val rfl rfl rfl (Val.move rfl) ?_)
      refine TL.cons (TL.not (Wt.no rfl rfl rfl rfl) rfl ?_)
      refine TL.cons (TL.not (Wt.no rfl rfl rfl rfl) rfl ?_)
      refine TL.cons (TL.not (Wt.no rfl rfl rfl rfl) rfl ?_)
      refine TL.cons (TL.not (Wt.no rfl rfl rfl rfl) rfl ?_)
      refine TL.cons (TL.not (Wt.no rfl rfl rfl rfl) rfl ?_)
      refine TL.cons (TO.val rfl rfl rfl (Val.pickN rfl rfl rfl) ?_)
      refine TL.cons (TO.val rfl rfl rfl (Val.assign rfl) ?_)
      refine TL.nil ?_
      refine TQ.then_ ?_
      refine TC.ret ?_
      refine TQ.back hb136 ?_
      refine TQ.back hb129 ?_
      refine TQ.back hb117 ?_
      obtain rfl := Option.some.inj h
      exact TQ.done (Ls := []) (.inl rfl) [] 6 Try.results9 (.tmp rfl .nil) rfl (Gd.le.refl _) rfl rfl rfl ⟨rfl, rfl, rfl⟩
  · have hk199 : y139 = false := (by simpa using hg141)
    refine TL.cons (TL.not (Wt.no rfl rfl rfl hk199) rfl ?_)
    refine TL.cons (TL.not (Wt.no rfl rfl rfl hk199) rfl ?_)
    refine TL.cons (TL.not (Wt.no rfl rfl rfl hk199) rfl ?_)
    refine TL.cons (TL.not (Wt.no rfl rfl rfl hk199) rfl ?_)
    refine TL.cons (TO.val rfl rfl rfl (Val.pickN rfl hk199 rfl) ?_)
    refine TL.cons (TO.val rfl rfl rfl (Val.move rfl) ?_)
    refine TL.cons (TL.not (Wt.no rfl rfl rfl rfl) rfl ?_)
    refine TL.cons (TL.not (Wt.no rfl rfl rfl rfl) rfl ?_)
    refine TL.cons (TL.not (Wt.no rfl rfl rfl rfl) rfl ?_)
    refine TL.cons (TL.not (Wt.no rfl rfl rfl rfl) rfl ?_)
    refine TL.cons (TL.not (Wt.no rfl rfl rfl rfl) rfl ?_)
    refine TL.cons (TL.not (Wt.no rfl rfl rfl rfl) rfl ?_)
    refine TL.cons (TO.val rfl rfl rfl (Val.pickN rfl rfl rfl) ?_)
    refine TL.cons (TO.val rfl rfl rfl (Val.move rfl) ?_)
    refine TL.cons (TL.not (Wt.no rfl rfl rfl rfl) rfl ?_)
    refine TL.cons (TL.not (Wt.no rfl rfl rfl rfl) rfl ?_)
    refine TL.cons (TL.not (Wt.no rfl rfl rfl rfl) rfl ?_)
    refine TL.cons (TL.not (Wt.no rfl rfl rfl rfl) rfl ?_)
    refine TL.cons (TL.not (Wt.no rfl rfl rfl rfl) rfl ?_)
    refine TL.cons (TL.not (Wt.no rfl rfl rfl rfl) rfl ?_)
    refine TL.cons (TO.val rfl rfl rfl (Val.pickN rfl rfl rfl) ?_)
    refine TL.cons (TO.val rfl rfl rfl (Val.move rfl) ?_)
    refine TL.cons (TL.not (Wt.no rfl rfl rfl rfl) rfl ?_)
    refine TL.cons (TL.not (Wt.no rfl rfl rfl rfl) rfl ?_)
    refine TL.cons (TL.not (Wt.no rfl rfl rfl rfl) rfl ?_)
    refine TL.cons (TL.not (Wt.no rfl rfl rfl rfl) rfl ?_)
    refine TL.cons (TL.not (Wt.no rfl rfl rfl rfl) rfl ?_)
    refine TL.cons (TO.val rfl rfl rfl (Val.pickN rfl rfl rfl) ?_)
    refine TL.cons (TO.val rfl rfl rfl (Val.assign rfl) ?_)
    refine TL.nil ?_
    refine TQ.then_ ?_
    refine TC.ret ?_
    refine TQ.back hb136 ?_
    refine TQ.back hb129 ?_
    refine TQ.back hb117 ?_
    obtain rfl := Option.some.inj h
    exact TQ.done (Ls := []) (.inl rfl) [] 6 Try.results9 (.tmp rfl .nil) rfl (Gd.le.refl _) rfl rfl rfl ⟨rfl, rfl, rfl⟩
end Go.Proofs.Ytmacdhkfgoahcaa.Sx
set_option linter.unusedVariables false
set_option linter.unusedSimpArgs false
set_option maxRecDepth 100000
set_option maxHeartbeats 4000000
namespace Go.Proofs.Ytmacdhkfgoahcaa.Sx
open Go Go.RowKit Go.Proofs.YtmacdhkfgoahcaaW.PrintWords Go.Proofs.Ytmacdhkfgoahcaa.Q
def slices_Clone_api_Block_api_Block.f (a0 : (List S28)) : Option (List S28) := (if ([] : List S28).length + a0.length ≤ 2513169434916 then some (([] : List S28) ++ a0) else none)
def slices_Clone_api_Block_api_Block.post (G : Gd) (r : (List S28)) (v : Value) (G' : Gd) (Lr : List Ch) : Prop := G = G' ∧ ∃ (A_1 : Option Addr) (c_1 : Nat), v = .slice A_1 r.length c_1 ∧ Lr = [Row (Sh G k28) 28 (.slice A_1 r.length c_1) r]
theorem slices_Clone_api_Block_api_Block.calls {G : Gd} {r : (List S28)} {a0 : (List S28)} {A1 : Option Addr} {c2 : Nat} (hr3 : Rd G k28 A1 a0) (hl4 : a0.length ≤ c2) (h : slices_Clone_api_Block_api_Block.f a0 = some r) : Fn Try.prog 39 G [] [.slice A1 a0.length c2] (slices_Clone_api_Block_api_Block.post G r) := by
  refine Fn.intro Try.func39 rfl Try.ntmps39 rfl (Nat.le_of_ble_eq_true rfl) (fun L => ?_)
  unfold slices_Clone_api_Block_api_Block.f at h
  refine TC.seq ?_
  refine TC.region ?_
  refine TL.cons (TO.val rfl rfl rfl (Val.assign rfl) ?_)
  refine TL.nil ?_
  refine TQ.then_ ?_
  refine TC.seq ?_
  refine TC.seq ?_
  refine TC.region ?_
  refine TL.cons (TO.val rfl rfl rfl (Val.move rfl) ?_)
  refine TL.cons (TO.val rfl rfl rfl (Val.eqNil Try.underlying34 rfl) ?_)
  refine TL.nil ?_
  refine TQ.then_ ?_
  refine TC.cond rfl (fun hc7 => ?_) (fun hc7 => ?_)
  · have hn := Rd.nilEq hr3 hc7
    have h : some ([] : List S28) = some r := by first | (simpa [hn] using h) | (simp [hn] at h; simp [h, hn])
    refine TC.seq ?_
    refine TC.region ?_
    refine TL.cons (TO.val rfl rfl rfl (Val.assign rfl) ?_)
    refine TL.nil ?_
    refine TQ.then_ ?_
    refine TC.ret ?_
    refine TQ.thenR ?_
    refine TQ.nilRow (Sh G k28) 28 ?_
    obtain rfl := Option.some.inj h
    exact TQ.done (Ls := [Row (Sh G k28) 28 (.slice none 0 0) ([] : List S28)]) (.inl rfl) [0] 1 Try.results39 (.tmp rfl .nil) rfl (Gd.le.refl _) rfl rfl rfl ⟨rfl, none, 0, rfl, rfl⟩
  · refine TC.skip ?_
    refine TQ.then_ ?_
    refine TC.seq ?_
    refine TC.region ?_
    refine TL.cons (TL.buildSlice0 k28 rfl rfl Try.underlying34 zs28 (fun b9 => ?_))
    refine TL.cons (TO.val rfl rfl rfl (Val.move rfl) ?_)
    refine TK.conv (ch' := Row (Sh G k28) 28 (.slice (some ⟨b9, 0, none⟩) 0 0) ([] : List S28)) (fun B W F hh => Row.empty k28 (Sh G k28) rfl B W F hh) ?_
    obtain ⟨ha11, h⟩ := ite_no h
    refine TL.cons (TL.appendR (xs := ([] : List S28)) (ys := a0) (Sh G k28) (Sh G k28) rfl rfl Try.underlying34 inf28 rfl (Nat.le_of_ble_eq_true rfl) (Nat.le_of_ble_eq_true rfl) rfl rfl (by omega) (Rd.sh hr3) rfl (fun _ _ _ _ _ h => h) (fun A12 c13 => ?_))
    refine TL.cons (TO.val rfl rfl rfl (Val.assign rfl) ?_)
    refine TL.nil ?_
    refine TQ.then_ ?_
    refine TC.ret ?_
    obtain rfl := Option.some.inj h
    exact TQ.done (Ls := [Row (Sh G k28) 28 (.slice A12 (([] : List S28) ++ a0).length c13) (([] : List S28) ++ a0)]) (.inl rfl) [0] 1 Try.results39 (.tmp rfl .nil) rfl (Gd.le.refl _) rfl rfl rfl ⟨rfl, A12, c13, rfl, rfl⟩
end Go.Proofs.Ytmacdhkfgoahcaa.Sx
set_option linter.unusedVariables false
set_option linter.unusedSimpArgs false
set_option maxRecDepth 100000
set_option maxHeartbeats 4000000
namespace Go.Proofs.Ytmacdhkfgoahcaa.Sx
open Go Go.RowKit Go.Proofs.YtmacdhkfgoahcaaW.PrintWords Go.Proofs.Ytmacdhkfgoahcaa.Q
def deadstore_Func.l0 (y7 : (List S28)) : Nat → (List S28) → Int → Option ((List S28))
  | 0, _, _ => none
  | n437 + 1, l336, x341 => (if x341 < (y7.length : Int) then (at? l336 x341).bind fun y491 => (deadstore_Block.f y491).bind fun (y517 : S28) => (at? l336 x341).bind fun y522 => deadstore_Func.l0 y7 n437 (l336.set x341.toNat y517) (IntKind.i64.wrap (x341 + 1)) else some l336)
def deadstore_Func.f (a0 : S36) : Option S36 := (slices_Clone_api_Block_api_Block.f a0.f1).bind fun (y7 : (List S28)) => (deadstore_Func.l0 y7 (y7.length + 1) y7 0).bind fun (l432 : (List S28)) => some (⟨a0.f0, l432⟩ : S36)
def deadstore_Func.post (G : Gd) (r : S36) (v : Value) (G' : Gd) (Lr : List Ch) : Prop := G = G' ∧ ∃ (A_1 : Option Addr) (c_1 : Nat), v = .agg #[.int .i64 r.f0, .slice A_1 r.f1.length c_1] ∧ Lr = [Row k28 28 (.slice A_1 r.f1.length c_1) r.f1]
theorem deadstore_Func.calls {G : Gd} {r : S36} {a0 : S36} {A1 : Option Addr} {c2 : Nat} (hr3 : Rd G k28 A1 a0.f1) (hl4 : a0.f1.length ≤ c2) (h : deadstore_Func.f a0 = some r) : Fn Try.prog 15 G [] [.agg #[.int .i64 a0.f0, .slice A1 a0.f1.length c2]] (deadstore_Func.post G r) := by
  refine Fn.intro Try.func15 rfl Try.ntmps15 rfl (Nat.le_of_ble_eq_true rfl) (fun L => ?_)
  unfold deadstore_Func.f at h
  refine TC.seq ?_
  refine TC.region ?_
  refine TL.cons (TL.box (cs := [.int .i64 a0.f0, .slice A1 a0.f1.length c2]) rfl rfl rfl rfl (fun b5 => ?_))
  refine TL.cons (TL.alloc (cs := [.int .i64 0, .slice none 0 0]) rfl rfl zr36 rfl (fun b6 => ?_))
  refine TL.nil ?_
  refine TQ.then_ ?_
  refine TC.seq ?_
  refine TC.region ?_
  refine TL.cons (TO.val rfl rfl rfl (Val.fieldAddrB Try.underlying36 rfl sz34 rfl rfl rfl) ?_)
  refine TL.cons (TO.val rfl rfl rfl (Val.loadB 1 agg34 rfl rfl rfl) ?_)
  obtain ⟨y7, hy8, h⟩ := bind_no h
  refine TL.cons (TL.callV (Lin := []) (args := [.slice A1 a0.f1.length c2]) rfl rfl rfl hb39 rfl rfl (slices_Clone_api_Block_api_Block.calls (a0 := a0.f1) hr3 hl4 hy8) rfl ?_)
  rintro _ _ _ _ ⟨rfl, A9, c10, rfl, rfl⟩
  refine TL.cons (TO.val rfl rfl rfl (Val.fieldAddrB Try.underlying36 rfl sz34 rfl rfl rfl) ?_)
  refine TL.cons (TL.store 2 (ds := [.slice A9 y7.length c10]) (cs' := [.int .i64 a0.f0, .slice A9 y7.length c10]) (L' := (Row (Sh G k28) 28 (.slice A9 y7.length c10) y7 :: Blk b6 [.int .i64 0, .slice none 0 0] 36 :: Blk b5 [.int .i64 a0.f0, .slice A9 y7.length c10] 36 :: L)) rfl sz34 rfl rfl rfl rfl rfl (Nat.le_of_ble_eq_true rfl) rfl rfl ?_)
  refine TL.nil ?_
  refine TQ.then_ ?_
  refine TC.seq ?_
  refine TC.seq ?_
  refine TC.region ?_
  refine TL.cons (TO.val rfl rfl rfl (Val.fieldAddrB Try.underlying36 rfl sz34 rfl rfl rfl) ?_)
  refine TL.cons (TO.val rfl rfl rfl (Val.loadB 2 agg34 rfl rfl rfl) ?_)
  refine TL.cons (TO.val rfl rfl rfl (Val.len Try.underlying34 rfl) ?_)
  refine TL.cons (TO.val rfl rfl rfl (Val.move rfl) ?_)
  refine TL.nil ?_
  refine TQ.then_ ?_
  refine TC.conv (ch' := Row (Tg G k28) 28 (.slice A9 y7.length c10) (mixl 0 y7)) (fun B W F hh => Row.mix0 B W F hh) ?_
  obtain ⟨o436, ho436, ko436⟩ := bind_no h
  clear h
  refine TC.tail (fun a W => ∃ (l432 : (List S28)) (A433 : Option Addr) (c434 : Nat), l432 = o436 ∧ Fr 25 a [(1, .pointer (some ⟨b5, 0, none⟩)), (2, .pointer (some ⟨b6, 0, none⟩))] ∧ Own G (Blk b5 [.int .i64 a0.f0, .slice A433 l432.length c434] 36 :: Blk b6 [.int .i64 0, .slice none 0 0] 36 :: Row k28 28 (.slice A433 l432.length c434) l432 :: L) W) ?_ ?_
  · rintro a W ⟨l432, A433, c434, rfl, hF, hO⟩
    have h := ko436
    clear ko436 ho436
    refine TQ.use ?_ hF hO
    clear hF hO
    refine TQ.then_ ?_
    refine TC.seq ?_
    refine TC.region ?_
    refine TL.cons (TO.val rfl rfl rfl (Val.loadsB 0 (cs := [.int .i64 a0.f0, .slice A433 l432.length c434]) agg36 sz36 rfl rfl rfl rfl) ?_)
    refine TL.cons (TL.store 1 (ds := [.int .i64 a0.f0, .slice A433 l432.length c434]) (cs' := [.int .i64 a0.f0, .slice A433 l432.length c434]) (L' := (Blk b5 [.int .i64 a0.f0, .slice A433 l432.length c434] 36 :: Blk b6 [.int .i64 a0.f0, .slice A433 l432.length c434] 36 :: Row k28 28 (.slice A433 l432.length c434) l432 :: L)) rfl sz36 rfl rfl rfl rfl rfl (Nat.le_of_ble_eq_true rfl) rfl rfl ?_)
    refine TL.nil ?_
    refine TQ.then_ ?_
    refine TC.ret ?_
    obtain rfl := Option.some.inj h
    exact TQ.done (Ls := [Row k28 28 (.slice A433 l432.length c434) l432]) (.inl rfl) [2] 3 Try.results15 (.cells 1 rfl rfl agg36 sz36 .nil) rfl (Gd.le.refl _) rfl rfl rfl ⟨rfl, A433, c434, rfl, rfl⟩
  · refine TC.block ?_
    intro a W hF hO
    have hS : ∃ (l336 : (List S28)) (x341 : Int) (A337 : Option Addr) (c338 : Nat), deadstore_Func.l0 y7 (y7.length + 1) l336 x341 = some o436 ∧ l336.length = y7.length ∧ Fr 25 a [(1, .pointer (some ⟨b5, 0, none⟩)), (2, .pointer (some ⟨b6, 0, none⟩)), (10, .slice A337 l336.length c338), (11, .int .i64 (y7.length : Int)), (12, .int .i64 x341)] ∧ Own G (Blk b5 [.int .i64 a0.f0, .slice A337 l336.length c338] 36 :: Blk b6 [.int .i64 0, .slice none 0 0] 36 :: Row (Tg G k28) 28 (.slice A337 l336.length c338) (mixl x341 l336) :: L) W := by
      exact ⟨y7, 0, A9, c10, ho436, (by first | rfl | assumption | (simp only [List.length_set]; first | rfl | assumption)), hF.sub ⟨rfl, rfl, rfl, rfl, rfl, trivial⟩, hO.selT (Ls := [Blk b5 [.int .i64 a0.f0, .slice A9 y7.length c10] 36, Blk b6 [.int .i64 0, .slice none 0 0] 36, Row (Tg G k28) 28 (.slice A9 y7.length c10) (mixl 0 y7)]) [2, 1, 0] 3 rfl rfl rfl⟩
    clear hF hO ho436 ko436
    refine TC.loop (fun n437 a W => ∃ (l336 : (List S28)) (x341 : Int) (A337 : Option Addr) (c338 : Nat), deadstore_Func.l0 y7 n437 l336 x341 = some o436 ∧ l336.length = y7.length ∧ Fr 25 a [(1, .pointer (some ⟨b5, 0, none⟩)), (2, .pointer (some ⟨b6, 0, none⟩)), (10, .slice A337 l336.length c338), (11, .int .i64 (y7.length : Int)), (12, .int .i64 x341)] ∧ Own G (Blk b5 [.int .i64 a0.f0, .slice A337 l336.length c338] 36 :: Blk b6 [.int .i64 0, .slice none 0 0] 36 :: Row (Tg G k28) 28 (.slice A337 l336.length c338) (mixl x341 l336) :: L) W) ?_ ?_ hS
    · rintro a W ⟨l336, x341, A337, c338, h, hl340, hF, hO⟩
      exact none_no h
    · clear hS
      rintro n437 a W ⟨l336, x341, A337, c338, h, hl340, hF, hO⟩
      rw [deadstore_Func.l0] at h
      refine TC.use ?_ hF hO
      clear hF hO
      refine TC.seq ?_
      refine TC.region ?_
      refine TL.cons (TO.val rfl rfl rfl (Val.cmp rfl rfl run_lss) ?_)
      refine TL.nil ?_
      refine TQ.then_ ?_
      refine TC.seq ?_
      refine TC.cond_p rfl h (fun hc440 h => ?_) (fun hc440 h => ?_)
      · refine TC.skip ?_
        refine TQ.then_ ?_
        refine TC.seq ?_
        refine TC.block ?_
        refine TC.seq ?_
        refine TC.region ?_
        refine TL.cons (TO.val rfl rfl rfl (Val.move rfl) ?_)
        refine TK.sel (Ls := [Row (Tg G k28) 28 (.slice A337 l336.length c338) (mixl x341 l336), Blk b5 [.int .i64 a0.f0, .slice A337 l336.length c338] 36, Blk b6 [.int .i64 0, .slice none 0 0] 36]) [2, 0, 1] 3 rfl rfl rfl ?_
        refine TK.share (fun G485 e486 hs487 hb488 => ?_)
        have rd489 : Rd G485 k28 A337 l336 := Rd.mixed (Rd.row hs487) e486
        have le490 : l336.length ≤ c338 := (by have h_ := Row.le hs487; rwa [mixl_length] at h_)
        obtain ⟨y491, hx492, h⟩ := bind_no h
        obtain ⟨ad493, cs499, hA494, hi495, hj496, hcl497, hK498⟩ := Rd.at rd489 hx492
        obtain ⟨A500, c501, rfl, hr502, hl503⟩ := k28_openR hK498
        refine TL.cons (TO.val rfl rfl rfl (Val.indexAddr Try.underlying34 sz28 rfl hA494 rfl hi495 hj496) ?_)
        refine TL.cons (TO.val rfl rfl rfl (Val.loadsS (cs := [.slice A500 y491.f0.length c501, .int .i64 y491.f1.f0, .int .i64 y491.f1.f1, .int .i64 y491.f1.f2, .int .i64 y491.f1.f3]) agg28 sz28 rfl rfl (Cl.sub (off := 0) (n := 5) hcl497 rfl)) ?_)
        refine TL.cons (TL.alloc (cs := [.slice none 0 0, .int .i64 0, .int .i64 0, .int .i64 0, .int .i64 0]) rfl rfl zr28 rfl (fun b504 => ?_))
        refine TL.cons (TO.val rfl rfl rfl (Val.assign rfl) ?_)
        refine TL.cons (TL.store 0 (ds := [.slice A500 y491.f0.length c501, .int .i64 y491.f1.f0, .int .i64 y491.f1.f1, .int .i64 y491.f1.f2, .int .i64 y491.f1.f3]) (cs' := [.slice A500 y491.f0.length c501, .int .i64 y491.f1.f0, .int .i64 y491.f1.f1, .int .i64 y491.f1.f2, .int .i64 y491.f1.f3]) (L' := (Blk b504 [.slice A500 y491.f0.length c501, .int .i64 y491.f1.f0, .int .i64 y491.f1.f1, .int .i64 y491.f1.f2, .int .i64 y491.f1.f3] 28 :: Blk b5 [.int .i64 a0.f0, .slice A337 l336.length c338] 36 :: Blk b6 [.int .i64 0, .slice none 0 0] 36 :: L)) rfl sz28 rfl rfl rfl rfl rfl (Nat.le_of_ble_eq_true rfl) rfl rfl ?_)
        refine TL.nil ?_
        refine TQ.then_ ?_
        refine TC.regionAny [6] mixed ?_
        refine TA.take 0 rfl (by kernel_rfl) rfl (PQ.inB (PQ.then_ (PQ.then_ (PQ.inB (PQ.then_ (PQ.then_ PQ.body)))))) rfl (Val.fieldAddrB Try.underlying36 rfl sz34 rfl rfl rfl) (fun W hO => hO) ?_
        refine TA.take 1 rfl (by kernel_rfl) rfl (PQ.inB (PQ.then_ (PQ.then_ (PQ.inB (PQ.then_ (PQ.then_ PQ.body)))))) rfl (Val.loadB 1 agg34 rfl rfl rfl) (fun W hO => hO) ?_
        refine TA.take 2 rfl (by kernel_rfl) rfl (PQ.inB (PQ.then_ (PQ.then_ (PQ.inB (PQ.then_ (PQ.then_ PQ.body)))))) rfl (Val.move rfl) (fun W hO => hO) ?_
        refine TA.take 3 rfl (by kernel_rfl) rfl (PQ.inB (PQ.then_ (PQ.then_ (PQ.inB (PQ.then_ (PQ.then_ PQ.body)))))) rfl (Val.loadsB 0 (cs := [.slice A500 y491.f0.length c501, .int .i64 y491.f1.f0, .int .i64 y491.f1.f1, .int .i64 y491.f1.f2, .int .i64 y491.f1.f3]) agg28 sz28 rfl rfl rfl rfl) (fun W hO => hO) ?_
        obtain ⟨y517, hy518, h⟩ := bind_no h
        refine TA.eff 4 rfl (by kernel_rfl) rfl (TL.callV (Lin := []) (args := [.agg #[.slice A500 y491.f0.length c501, .int .i64 y491.f1.f0, .int .i64 y491.f1.f1, .int .i64 y491.f1.f2, .int .i64 y491.f1.f3]]) rfl rfl rfl hb11 rfl rfl (deadstore_Block.calls (a0 := y491) hr502 hl503 hy518) rfl ?_)
        rintro _ _ _ _ ⟨rfl, A519, c520, rfl, rfl⟩
        refine TA.next (fun W hO => hO.selT (Ls := [Blk b504 [.slice A500 y491.f0.length c501, .int .i64 y491.f1.f0, .int .i64 y491.f1.f1, .int .i64 y491.f1.f2, .int .i64 y491.f1.f3] 28, Blk b5 [.int .i64 a0.f0, .slice A337 l336.length c338] 36, Blk b6 [.int .i64 0, .slice none 0 0] 36]) [1, 2, 3] 4 rfl rfl rfl) ?_
        obtain ⟨y522, hy523, h⟩ := bind_no h
        obtain ⟨b524, hA525, hi526, hj527⟩ := Row.openedS hs487 (at_mixl hy523)
        refine TA.take 5 rfl (by kernel_rfl) rfl (PQ.inB (PQ.then_ (PQ.then_ (PQ.inB (PQ.then_ (PQ.then_ PQ.body)))))) rfl (Val.indexAddrW Try.underlying34 sz28 rfl hA525 rfl hi526 hj527) (fun W hO => hO.selT (Ls := [Blk b504 [.slice A500 y491.f0.length c501, .int .i64 y491.f1.f0, .int .i64 y491.f1.f1, .int .i64 y491.f1.f2, .int .i64 y491.f1.f3] 28, Blk b5 [.int .i64 a0.f0, .slice A337 l336.length c338] 36, Blk b6 [.int .i64 0, .slice none 0 0] 36]) [1, 2, 3] 4 rfl rfl rfl) ?_
        refine TK.back hb488 ?_
        refine TK.sel (Ls := [Row k30 30 (.slice A519 y517.f0.length c520) y517.f0, Row (Tg G k28) 28 (.slice A337 l336.length c338) (mixl x341 l336), Blk b504 [.slice A500 y491.f0.length c501, .int .i64 y491.f1.f0, .int .i64 y491.f1.f1, .int .i64 y491.f1.f2, .int .i64 y491.f1.f3] 28, Blk b5 [.int .i64 a0.f0, .slice A337 l336.length c338] 36, Blk b6 [.int .i64 0, .slice none 0 0] 36]) [1, 0, 2, 3, 4] 5 rfl rfl rfl ?_
        refine TK.conv (ch' := El k28 y517 [.slice A519 y517.f0.length c520, .int .i64 y517.f1.f0, .int .i64 y517.f1.f1, .int .i64 y517.f1.f2, .int .i64 y517.f1.f3]) (fun B W F hh => k28_mkM W B F y517 hh) ?_
        refine TK.sel (Ls := [Row (Tg G k28) 28 (.slice A337 l336.length c338) (mixl x341 l336), El k28 y517 [.slice A519 y517.f0.length c520, .int .i64 y517.f1.f0, .int .i64 y517.f1.f1, .int .i64 y517.f1.f2, .int .i64 y517.f1.f3], Blk b504 [.slice A500 y491.f0.length c501, .int .i64 y491.f1.f0, .int .i64 y491.f1.f1, .int .i64 y491.f1.f2, .int .i64 y491.f1.f3] 28, Blk b5 [.int .i64 a0.f0, .slice A337 l336.length c338] 36, Blk b6 [.int .i64 0, .slice none 0 0] 36]) [1, 0, 2, 3, 4] 5 rfl rfl rfl ?_
        refine TA.eff 6 rfl (by kernel_rfl) rfl (TL.storeE (Tg G k28) (xs := (mixl x341 l336)) (xv := (y517, true)) (ds := [.slice A519 y517.f0.length c520, .int .i64 y517.f1.f0, .int .i64 y517.f1.f1, .int .i64 y517.f1.f2, .int .i64 y517.f1.f3]) rfl sz28 hA525 (at_mixl hy523) rfl rfl rfl rfl (Nat.le_of_ble_eq_true rfl) (wholeMT rfl) ?_)
        refine TA.last rfl ?_
        refine TK.conv (ch' := Row (Tg G k28) 28 (.slice A337 l336.length c338) (mixl (IntKind.i64.wrap (x341 + 1)) (l336.set x341.toNat y517))) (fun B W F hh => Row.mixset hy523 hh) ?_
        rw [show (l336.length : Nat) = (l336.set x341.toNat y517).length from by simp only [List.length_set]]
        refine TA.done (by kernel_rfl) ?_
        refine TQ.inB ?_
        refine TQ.then_ ?_
        refine TC.region ?_
        refine TL.cons (TO.val rfl rfl rfl (Val.cmp rfl rfl run_add) ?_)
        refine TL.cons (TO.val rfl rfl rfl (Val.move rfl) ?_)
        refine TL.nil ?_
        exact fun a W hF hO => ⟨(l336.set x341.toNat y517), IntKind.i64.wrap (x341 + 1), A337, c338, h, (by first | rfl | assumption | (simp only [List.length_set]; first | rfl | assumption)), hF.sub ⟨rfl, rfl, rfl, rfl, rfl, trivial⟩, hO.selT (Ls := [Blk b5 [.int .i64 a0.f0, .slice A337 (l336.set x341.toNat y517).length c338] 36, Blk b6 [.int .i64 0, .slice none 0 0] 36, Row (Tg G k28) 28 (.slice A337 (l336.set x341.toNat y517).length c338) (mixl (IntKind.i64.wrap (x341 + 1)) (l336.set x341.toNat y517))]) [2, 3, 0] 4 rfl rfl rfl⟩
      · refine TC.sel (Ls := [Row (Tg G k28) 28 (.slice A337 l336.length c338) (mixl x341 l336), Blk b5 [.int .i64 a0.f0, .slice A337 l336.length c338] 36, Blk b6 [.int .i64 0, .slice none 0 0] 36]) [2, 0, 1] 3 rfl rfl rfl ?_
        refine TC.conv (ch' := Row k28 28 (.slice A337 l336.length c338) l336) (fun B W F hh => Row.mix1 (by omega) B W F hh) ?_
        refine TC.exit ?_
        refine TQ.thenX ?_
        refine TQ.thenX ?_
        refine TQ.inBX ?_
        exact fun a W hF hO => ⟨l336, A337, c338, Option.some.inj h, hF.sub ⟨rfl, rfl, trivial⟩, hO.selT (Ls := [Blk b5 [.int .i64 a0.f0, .slice A337 l336.length c338] 36, Blk b6 [.int .i64 0, .slice none 0 0] 36, Row k28 28 (.slice A337 l336.length c338) l336]) [1, 2, 0] 3 rfl rfl rfl⟩
end Go.Proofs.Ytmacdhkfgoahcaa.Sx
set_option linter.unusedVariables false
set_option linter.unusedSimpArgs false
set_option maxRecDepth 100000
set_option maxHeartbeats 4000000
namespace Go.Proofs.Ytmacdhkfgoahcaa.Sx
open Go Go.RowKit Go.Proofs.YtmacdhkfgoahcaaW.PrintWords Go.Proofs.Ytmacdhkfgoahcaa.Q
def swageref14_SameOp.f (a0 : S30) (a1 : S30) : Option Bool := (swageref02_Ints.f a0.f5 a1.f5).bind fun (y11 : Bool) => (if y11 = true then (if a0.f0 = a1.f0 then (if a0.f1 = a1.f1 then (if a0.f2 = a1.f2 then (if a0.f3 = a1.f3 then some (decide (a0.f4 = a1.f4)) else some false) else some false) else some false) else some false) else some false)
def swageref14_SameOp.post (G : Gd) (r : Bool) (v : Value) (G' : Gd) (Lr : List Ch) : Prop := G = G' ∧ v = .bool r ∧ Lr = []
theorem swageref14_SameOp.calls {G : Gd} {r : Bool} {a0 : S30} {a1 : S30} {A1 : Option Addr} {c2 : Nat} {A5 : Option Addr} {c6 : Nat} (hr3 : Rd G (Kd.int .i64) A1 a0.f5) (hl4 : a0.f5.length ≤ c2) (hr7 : Rd G (Kd.int .i64) A5 a1.f5) (hl8 : a1.f5.length ≤ c6) (h : swageref14_SameOp.f a0 a1 = some r) : Fn Try.prog 21 G [] [.agg #[.int .i64 a0.f0, .int .i64 a0.f1, .int .i64 a0.f2, .int .i64 a0.f3, .int .i64 a0.f4, .slice A1 a0.f5.length c2], .agg #[.int .i64 a1.f0, .int .i64 a1.f1, .int .i64 a1.f2, .int .i64 a1.f3, .int .i64 a1.f4, .slice A5 a1.f5.length c6]] (swageref14_SameOp.post G r) := by
  refine Fn.intro Try.func21 rfl Try.ntmps21 rfl (Nat.le_of_ble_eq_true rfl) (fun L => ?_)
  unfold swageref14_SameOp.f at h
  refine TC.seq ?_
  refine TC.region ?_
  refine TL.cons (TL.box (cs := [.int .i64 a0.f0, .int .i64 a0.f1, .int .i64 a0.f2, .int .i64 a0.f3, .int .i64 a0.f4, .slice A1 a0.f5.length c2]) rfl rfl rfl rfl (fun b9 => ?_))
  refine TL.cons (TL.box (cs := [.int .i64 a1.f0, .int .i64 a1.f1, .int .i64 a1.f2, .int .i64 a1.f3, .int .i64 a1.f4, .slice A5 a1.f5.length c6]) rfl rfl rfl rfl (fun b10 => ?_))
  refine TL.cons (TO.val rfl rfl rfl (Val.assign rfl) ?_)
  refine TL.nil ?_
  refine TQ.then_ ?_
  refine TC.seq ?_
  refine TC.region ?_
  refine TL.cons (TO.val rfl rfl rfl (Val.fieldAddrB Try.underlying30 rfl sz22 rfl rfl rfl) ?_)
  refine TL.cons (TO.val rfl rfl rfl (Val.loadB 1 agg22 rfl rfl rfl) ?_)
  refine TL.cons (TO.val rfl rfl rfl (Val.fieldAddrB Try.underlying30 rfl sz22 rfl rfl rfl) ?_)
  refine TL.cons (TO.val rfl rfl rfl (Val.loadB 0 agg22 rfl rfl rfl) ?_)
  obtain ⟨y11, hy12, h⟩ := bind_no h
  refine TL.cons (TL.callV (Lin := []) (args := [.slice A1 a0.f5.length c2, .slice A5 a1.f5.length c6]) rfl rfl rfl hb19 rfl rfl (swageref02_Ints.calls (a0 := a0.f5) (a1 := a1.f5) hr3 hl4 hr7 hl8 hy12) rfl ?_)
  rintro _ _ _ _ ⟨rfl, rfl, rfl⟩
  refine TL.cons (TO.val rfl rfl rfl (Val.assign rfl) ?_)
  refine TL.nil ?_
  refine TQ.then_ ?_
  refine TC.seq ?_
  refine TC.region ?_
  refine TL.cons (TO.val rfl rfl rfl (Val.move rfl) ?_)
  refine TL.cons (TO.val rfl rfl rfl (Val.move rfl) ?_)
  refine TK.split (p := y11 = true) h (fun hg28 h => ?_) (fun hg28 h => ?_)
  · have hk29 : y11 = true := hg28
    refine TL.cons (TO.val (Wt.yes rfl rfl rfl hk29) rfl rfl (Val.fieldAddrB Try.underlying30 rfl sz3 rfl rfl rfl) ?_)
    refine TL.cons (TO.val (Wt.yes rfl rfl rfl hk29) rfl rfl (Val.loadB 1 agg3 rfl rfl rfl) ?_)
    refine TL.cons (TO.val (Wt.yes rfl rfl rfl hk29) rfl rfl (Val.fieldAddrB Try.underlying30 rfl sz3 rfl rfl rfl) ?_)
    refine TL.cons (TO.val (Wt.yes rfl rfl rfl hk29) rfl rfl (Val.loadB 0 agg3 rfl rfl rfl) ?_)
    refine TL.cons (TO.val (Wt.yes rfl rfl rfl hk29) rfl rfl (Val.cmp rfl rfl run_eql) ?_)
    refine TL.cons (TO.val rfl rfl rfl (Val.pickY rfl hk29 rfl) ?_)
    refine TL.cons (TO.val rfl rfl rfl (Val.move rfl) ?_)
    refine TK.split (p := a0.f0 = a1.f0) h (fun hg30 h => ?_) (fun hg30 h => ?_)
    · have hk31 : decide (a0.f0 = a1.f0) = true := decide_eq_true hg30
      refine TL.cons (TO.val (Wt.yes rfl rfl rfl hk31) rfl rfl (Val.fieldAddrB Try.underlying30 rfl sz3 rfl rfl rfl) ?_)
      refine TL.cons (TO.val (Wt.yes rfl rfl rfl hk31) rfl rfl (Val.loadB 1 agg3 rfl rfl rfl) ?_)
      refine TL.cons (TO.val (Wt.yes rfl rfl rfl hk31) rfl rfl (Val.fieldAddrB Try.underlying30 rfl sz3 rfl rfl rfl) ?_)
      refine TL.cons (TO.val (Wt.yes rfl rfl rfl hk31) rfl rfl (Val.loadB 0 agg3 rfl rfl rfl) ?_)
      refine TL.cons (TO.val (Wt.yes rfl rfl rfl hk31) rfl rfl (Val.cmp rfl rfl run_eql) ?_)
      refine TL.cons (TO.val rfl rfl rfl (Val.pickY rfl hk31 rfl) ?_)
      refine TL.cons (TO.val rfl rfl rfl (Val.move rfl) ?_)
      refine TK.split (p := a0.f1 = a1.f1) h (fun hg32 h => ?_) (fun hg32 h => ?_)
      · have hk33 : decide (a0.f1 = a1.f1) = true := decide_eq_true hg32
        refine TL.cons (TO.val (Wt.yes rfl rfl rfl hk33) rfl rfl (Val.fieldAddrB Try.underlying30 rfl sz3 rfl rfl rfl) ?_)
        refine TL.cons (TO.val (Wt.yes rfl rfl rfl hk33) rfl rfl (Val.loadB 1 agg3 rfl rfl rfl) ?_)
        refine TL.cons (TO.val (Wt.yes rfl rfl rfl hk33) rfl rfl (Val.fieldAddrB Try.underlying30 rfl sz3 rfl rfl rfl) ?_)
        refine TL.cons (TO.val (Wt.yes rfl rfl rfl hk33) rfl rfl (Val.loadB 0 agg3 rfl rfl rfl) ?_)
        refine TL.cons (TO.val (Wt.yes rfl rfl rfl hk33) rfl rfl (Val.cmp rfl rfl run_eql) ?_)
        refine TL.cons (TO.val rfl rfl rfl (Val.pickY rfl hk33 rfl) ?_)
        refine TL.cons (TO.val rfl rfl rfl (Val.move rfl) ?_)
        refine TK.split (p := a0.f2 = a1.f2) h (fun hg34 h => ?_) (fun hg34 h => ?_)
        · have hk35 : decide (a0.f2 = a1.f2) = true := decide_eq_true hg34
          refine TL.cons (TO.val (Wt.yes rfl rfl rfl hk35) rfl rfl (Val.fieldAddrB Try.underlying30 rfl sz3 rfl rfl rfl) ?_)
          refine TL.cons (TO.val (Wt.yes rfl rfl rfl hk35) rfl rfl (Val.loadB 1 agg3 rfl rfl rfl) ?_)
          refine TL.cons (TO.val (Wt.yes rfl rfl rfl hk35) rfl rfl (Val.fieldAddrB Try.underlying30 rfl sz3 rfl rfl rfl) ?_)
          refine TL.cons (TO.val (Wt.yes rfl rfl rfl hk35) rfl rfl (Val.loadB 0 agg3 rfl rfl rfl) ?_)
          refine TL.cons (TO.val (Wt.yes rfl rfl rfl hk35) rfl rfl (Val.cmp rfl rfl run_eql) ?_)
          refine TL.cons (TO.val rfl rfl rfl (Val.pickY rfl hk35 rfl) ?_)
          refine TL.cons (TO.val rfl rfl rfl (Val.move rfl) ?_)
          refine TK.split (p := a0.f3 = a1.f3) h (fun hg36 h => ?_) (fun hg36 h => ?_)
          · have hk37 : decide (a0.f3 = a1.f3) = true := decide_eq_true hg36
            refine TL.cons (TO.val (Wt.yes rfl rfl rfl hk37) rfl rfl (Val.fieldAddrB Try.underlying30 rfl sz3 rfl rfl rfl) ?_)
            refine TL.cons (TO.val (Wt.yes rfl rfl rfl hk37) rfl rfl (Val.loadB 1 agg3 rfl rfl rfl) ?_)
            refine TL.cons (TO.val (Wt.yes rfl rfl rfl hk37) rfl rfl (Val.fieldAddrB Try.underlying30 rfl sz3 rfl rfl rfl) ?_)
            refine TL.cons (TO.val (Wt.yes rfl rfl rfl hk37) rfl rfl (Val.loadB 0 agg3 rfl rfl rfl) ?_)
            refine TL.cons (TO.val (Wt.yes rfl rfl rfl hk37) rfl rfl (Val.cmp rfl rfl run_eql) ?_)
            refine TL.cons (TO.val rfl rfl rfl (Val.pickY rfl hk37 rfl) ?_)
            refine TL.cons (TO.val rfl rfl rfl (Val.assign rfl) ?_)
            refine TL.nil ?_
            refine TQ.then_ ?_
            refine TC.ret ?_
            obtain rfl := Option.some.inj h
            exact TQ.done (Ls := []) (.inl rfl) [] 2 Try.results21 (.tmp rfl .nil) rfl (Gd.le.refl _) rfl rfl rfl ⟨rfl, rfl, rfl⟩
          · have hk38 : decide (a0.f3 = a1.f3) = false := decide_eq_false hg36
            refine TL.cons (TL.not (Wt.no rfl rfl rfl hk38) rfl ?_)
            refine TL.cons (TL.not (Wt.no rfl rfl rfl hk38) rfl ?_)
            refine TL.cons (TL.not (Wt.no rfl rfl rfl hk38) rfl ?_)
            refine TL.cons (TL.not (Wt.no rfl rfl rfl hk38) rfl ?_)
            refine TL.cons (TL.not (Wt.no rfl rfl rfl hk38) rfl ?_)
            refine TL.cons (TO.val rfl rfl rfl (Val.pickN rfl hk38 rfl) ?_)
            refine TL.cons (TO.val rfl rfl rfl (Val.assign rfl) ?_)
            refine TL.nil ?_
            refine TQ.then_ ?_
            refine TC.ret ?_
            obtain rfl := Option.some.inj h
            exact TQ.done (Ls := []) (.inl rfl) [] 2 Try.results21 (.tmp rfl .nil) rfl (Gd.le.refl _) rfl rfl rfl ⟨rfl, rfl, rfl⟩
        · have hk39 : decide (a0.f2 = a1.f2) = false := decide_eq_false hg34
          refine TL.cons (TL.not (Wt.no rfl rfl rfl hk39) rfl ?_)
          refine TL.cons (TL.not (Wt.no rfl rfl rfl hk39) rfl ?_)
          refine TL.cons (TL.not (Wt.no rfl rfl rfl hk39) rfl ?_)
          refine TL.cons (TL.not (Wt.no rfl rfl rfl hk39) rfl ?_)
          refine TL.cons (TL.not (Wt.no rfl rfl rfl hk39) rfl ?_)
          refine TL.cons (TO.val rfl rfl rfl (Val.pickN rfl hk39 rfl) ?_)
          refine TL.cons (TO.val rfl rfl rfl (Val.move rfl) ?_)
          refine TL.cons (TL.not (Wt.no rfl rfl rfl rfl) rfl ?_)
          refine TL.cons (TL.not (Wt.no rfl rfl rfl rfl) rfl ?_)
          refine TL.cons (TL.not (Wt.no rfl rfl rfl rfl) rfl ?_)
          refine TL.cons (TL.not (Wt.no rfl rfl rfl rfl) rfl ?_)
          refine TL.cons (TL.not (Wt.no rfl rfl rfl rfl) rfl ?_)
          refine TL.cons (TO.val rfl rfl rfl (Val.pickN rfl rfl rfl) ?_)
          refine TL.cons (TO.val rfl rfl rfl (Val.assign rfl) ?_)
          refine TL.nil ?_
          refine TQ.then_ ?_
          refine TC.ret ?_
          obtain rfl := Option.some.inj h
          exact TQ.done (Ls := []) (.inl rfl) [] 2 Try.results21 (.tmp rfl .nil) rfl (Gd.le.refl _) rfl rfl rfl ⟨rfl, rfl, rfl⟩
      · have hk40 : decide (a0.f1 = a1.f1) = false := decide_eq_false hg32
        refine TL.cons (TL.not (Wt.no rfl rfl rfl hk40) rfl ?_)
        refine TL.cons (TL.not (Wt.no rfl rfl rfl hk40) rfl ?_)
        refine TL.cons (TL.not (Wt.no rfl rfl rfl hk40) rfl ?_)
        refine TL.cons (TL.not (Wt.no rfl rfl rfl hk40) rfl ?_)
        refine TL.cons (TL.not (Wt.no rfl rfl rfl hk40) rfl ?_)
        refine TL.cons (TO.val rfl rfl rfl (Val.pickN rfl hk40 rfl) ?_)
        refine TL.cons (TO.val rfl rfl rfl (Val.move rfl) ?_)
        refine TL.cons (TL.not (Wt.no rfl rfl rfl rfl) rfl ?_)
        refine TL.cons (TL.not (Wt.no rfl rfl rfl rfl) rfl ?_)
        refine TL.cons (TL.not (Wt.no rfl rfl rfl rfl) rfl ?_)
        refine TL.cons (TL.not (Wt.no rfl rfl rfl rfl) rfl ?_)
        refine TL.cons (TL.not (Wt.no rfl rfl rfl rfl) rfl ?_)
        refine TL.cons (TO.val rfl rfl rfl (Val.pickN rfl rfl rfl) ?_)
        refine TL.cons (TO.val rfl rfl rfl (Val.move rfl) ?_)
        refine TL.cons (TL.not (Wt.no rfl rfl rfl rfl) rfl ?_)
        refine TL.cons (TL.not (Wt.no rfl rfl rfl rfl) rfl ?_)
        refine TL.cons (TL.not (Wt.no rfl rfl rfl rfl) rfl ?_)
        refine TL.cons (TL.not (Wt.no rfl rfl rfl rfl) rfl ?_)
        refine TL.cons (TL.not (Wt.no rfl rfl rfl rfl) rfl ?_)
        refine TL.cons (TO.val rfl rfl rfl (Val.pickN rfl rfl rfl) ?_)
        refine TL.cons (TO.val rfl rfl rfl (Val.assign rfl) ?_)
        refine TL.nil ?_
        refine TQ.then_ ?_
        refine TC.ret ?_
        obtain rfl := Option.some.inj h
        exact TQ.done (Ls := []) (.inl rfl) [] 2 Try.results21 (.tmp rfl .nil) rfl (Gd.le.refl _) rfl rfl rfl ⟨rfl, rfl, rfl⟩
    · have hk41 : decide (a0.f0 = a1.f0) = false := decide_eq_false hg30
      refine TL.cons (TL.not (Wt.no rfl rfl rfl hk41) rfl ?_)
      refine TL.cons (TL.not (Wt.no rfl rfl rfl hk41) rfl ?_)
      refine TL.cons (TL.not (Wt.no rfl rfl rfl hk41) rfl ?_)
      refine TL.cons (TL.not (Wt.no rfl rfl rfl hk41) rfl ?_)
      refine TL.cons (TL.not (Wt.no rfl rfl rfl hk41) rfl ?_)
      refine TL.cons (TO.val rfl rfl rfl (Val.pickN rfl hk41 rfl) ?_)
      refine TL.cons (TO.val rfl rfl rfl (Val.move rfl) ?_)
      refine TL.cons (TL.not (Wt.no rfl rfl rfl rfl) rfl ?_)
      refine TL.cons (TL.not (Wt.no rfl rfl rfl rfl) rfl ?_)
      refine TL.cons (TL.not (Wt.no rfl rfl rfl rfl) rfl ?_)
      refine TL.cons (TL.not (Wt.no rfl rfl rfl rfl) rfl ?_)
      refine TL.cons (TL.not (Wt.no rfl rfl rfl rfl) rfl ?_)
      refine TL.cons (TO.val rfl rfl rfl (Val.pickN rfl rfl rfl) ?_)
      refine TL.cons (TO.val rfl rfl rfl (Val.move rfl) ?_)
      refine TL.cons (TL.not (Wt.no rfl rfl rfl rfl) rfl ?_)
      refine TL.cons (TL.not (Wt.no rfl rfl rfl rfl) rfl ?_)
      refine TL.cons (TL.not (Wt.no rfl rfl rfl rfl) rfl ?_)
      refine TL.cons (TL.not (Wt.no rfl rfl rfl rfl) rfl ?_)
      refine TL.cons (TL.not (Wt.no rfl rfl rfl rfl) rfl ?_)
      refine TL.cons (TO.val rfl rfl rfl (Val.pickN rfl rfl rfl) ?_)
      refine TL.cons (TO.val rfl rfl rfl (Val.move rfl) ?_)
      refine TL.cons (TL.not (Wt.no rfl rfl rfl rfl) rfl ?_)
      refine TL.cons (TL.not (Wt.no rfl rfl rfl rfl) rfl ?_)
      refine TL.cons (TL.not (Wt.no rfl rfl rfl rfl) rfl ?_)
      refine TL.cons (TL.not (Wt.no rfl rfl rfl rfl) rfl ?_)
      refine TL.cons (TL.not (Wt.no rfl rfl rfl rfl) rfl ?_)
      refine TL.cons (TO.val rfl rfl rfl (Val.pickN rfl rfl rfl) ?_)
      refine TL.cons (TO.val rfl rfl rfl (Val.assign rfl) ?_)
      refine TL.nil ?_
      refine TQ.then_ ?_
      refine TC.ret ?_
      obtain rfl := Option.some.inj h
      exact TQ.done (Ls := []) (.inl rfl) [] 2 Try.results21 (.tmp rfl .nil) rfl (Gd.le.refl _) rfl rfl rfl ⟨rfl, rfl, rfl⟩
  · have hk42 : y11 = false := (by simpa using hg28)
    refine TL.cons (TL.not (Wt.no rfl rfl rfl hk42) rfl ?_)
    refine TL.cons (TL.not (Wt.no rfl rfl rfl hk42) rfl ?_)
    refine TL.cons (TL.not (Wt.no rfl rfl rfl hk42) rfl ?_)
    refine TL.cons (TL.not (Wt.no rfl rfl rfl hk42) rfl ?_)
    refine TL.cons (TL.not (Wt.no rfl rfl rfl hk42) rfl ?_)
    refine TL.cons (TO.val rfl rfl rfl (Val.pickN rfl hk42 rfl) ?_)
    refine TL.cons (TO.val rfl rfl rfl (Val.move rfl) ?_)
    refine TL.cons (TL.not (Wt.no rfl rfl rfl rfl) rfl ?_)
    refine TL.cons (TL.not (Wt.no rfl rfl rfl rfl) rfl ?_)
    refine TL.cons (TL.not (Wt.no rfl rfl rfl rfl) rfl ?_)
    refine TL.cons (TL.not (Wt.no rfl rfl rfl rfl) rfl ?_)
    refine TL.cons (TL.not (Wt.no rfl rfl rfl rfl) rfl ?_)
    refine TL.cons (TO.val rfl rfl rfl (Val.pickN rfl rfl rfl) ?_)
    refine TL.cons (TO.val rfl rfl rfl (Val.move rfl) ?_)
    refine TL.cons (TL.not (Wt.no rfl rfl rfl rfl) rfl ?_)
    refine TL.cons (TL.not (Wt.no rfl rfl rfl rfl) rfl ?_)
    refine TL.cons (TL.not (Wt.no rfl rfl rfl rfl) rfl ?_)
    refine TL.cons (TL.not (Wt.no rfl rfl rfl rfl) rfl ?_)
    refine TL.cons (TL.not (Wt.no rfl rfl rfl rfl) rfl ?_)
    refine TL.cons (TO.val rfl rfl rfl (Val.pickN rfl rfl rfl) ?_)
    refine TL.cons (TO.val rfl rfl rfl (Val.move rfl) ?_)
    refine TL.cons (TL.not (Wt.no rfl rfl rfl rfl) rfl ?_)
    refine TL.cons (TL.not (Wt.no rfl rfl rfl rfl) rfl ?_)
    refine TL.cons (TL.not (Wt.no rfl rfl rfl rfl) rfl ?_)
    refine TL.cons (TL.not (Wt.no rfl rfl rfl rfl) rfl ?_)
    refine TL.cons (TL.not (Wt.no rfl rfl rfl rfl) rfl ?_)
    refine TL.cons (TO.val rfl rfl rfl (Val.pickN rfl rfl rfl) ?_)
    refine TL.cons (TO.val rfl rfl rfl (Val.move rfl) ?_)
    refine TL.cons (TL.not (Wt.no rfl rfl rfl rfl) rfl ?_)
    refine TL.cons (TL.not (Wt.no rfl rfl rfl rfl) rfl ?_)
    refine TL.cons (TL.not (Wt.no rfl rfl rfl rfl) rfl ?_)
    refine TL.cons (TL.not (Wt.no rfl rfl rfl rfl) rfl ?_)
    refine TL.cons (TL.not (Wt.no rfl rfl rfl rfl) rfl ?_)
    refine TL.cons (TO.val rfl rfl rfl (Val.pickN rfl rfl rfl) ?_)
    refine TL.cons (TO.val rfl rfl rfl (Val.assign rfl) ?_)
    refine TL.nil ?_
    refine TQ.then_ ?_
    refine TC.ret ?_
    obtain rfl := Option.some.inj h
    exact TQ.done (Ls := []) (.inl rfl) [] 2 Try.results21 (.tmp rfl .nil) rfl (Gd.le.refl _) rfl rfl rfl ⟨rfl, rfl, rfl⟩
end Go.Proofs.Ytmacdhkfgoahcaa.Sx
set_option linter.unusedVariables false
set_option linter.unusedSimpArgs false
set_option maxRecDepth 100000
set_option maxHeartbeats 4000000
namespace Go.Proofs.Ytmacdhkfgoahcaa.Sx
open Go Go.RowKit Go.Proofs.YtmacdhkfgoahcaaW.PrintWords Go.Proofs.Ytmacdhkfgoahcaa.Q
def swagelaw23_DeadLeaves.l2 (y12 : S36) (x5807 : Int) : Nat → Int → Option (Sum Bool (Unit))
  | 0, _ => none
  | n13006 + 1, x12915 => (at? y12.f1 x5807).bind fun y13197 => (if x12915 < (y13197.f0.length : Int) then (at? y12.f1 x5807).bind fun y13252 => (at? y13252.f0 x12915).bind fun y13265 => (if (!decide (y13265.f0 = 5)) = true then some (.inl false) else swagelaw23_DeadLeaves.l2 y12 x5807 n13006 (IntKind.i64.wrap (x12915 + 1))) else some (.inr ()))
def swagelaw23_DeadLeaves.l3 (y12 : S36) (x5807 : Int) : Nat → Int → Option (Int)
  | 0, _ => none
  | n13932 + 1, x13855 => jn (fun (x14155 : Bool) => (if x14155 = true then swagelaw23_DeadLeaves.l3 y12 x5807 n13932 (IntKind.i64.wrap (x13855 + 1)) else some x13855)) (fun j14156 => (at? y12.f1 x5807).bind fun y14165 => (if x13855 < (y14165.f0.length : Int) then (at? y14165.f0 x13855).bind fun y14180 => j14156 (decide (y14180.f0 = 5)) else j14156 false))
def swagelaw23_DeadLeaves.l1 (a0 : S36) (y12 : S36) (x5807 : Int) : Nat → Int → Int → Option (Sum Bool (Int))
  | 0, _, _ => none
  | n12721 + 1, x12025, x12026 => (at? a0.f1 x5807).bind fun y13280 => (if x12026 < (y13280.f0.length : Int) then jn (fun (x13688 : Int) => swagelaw23_DeadLeaves.l1 a0 y12 x5807 n12721 x13688 (IntKind.i64.wrap (x12026 + 1))) (fun j13689 => (at? y13280.f0 x12026).bind fun y13690 => (if y13690.f0 = 5 then j13689 x12025 else (swagelaw23_DeadLeaves.l3 y12 x5807 ((at? y12.f1 x5807).elim 0 (fun vy13939 => vy13939.f0.length) + 1) x12025).bind fun (x13930 : Int) => jn (fun (x14042 : Bool) => (if x14042 = true then some (.inl false) else j13689 (IntKind.i64.wrap (x13930 + 1)))) (fun j14043 => (at? y12.f1 x5807).bind fun y14089 => (if (y14089.f0.length : Int) ≤ x13930 then j14043 true else (at? y14089.f0 x13930).bind fun y14105 => (swageref14_SameOp.f y13690 y14105).bind fun (y14118 : Bool) => j14043 (!y14118))))) else some (.inr x12025))
def swagelaw23_DeadLeaves.l0 (a0 : S36) (y12 : S36) : Nat → Int → Option (Sum Bool (Unit))
  | 0, _ => none
  | n8688 + 1, x5807 => (if x5807 < (a0.f1.length : Int) then (swagelaw23_DeadLeaves.l1 a0 y12 x5807 ((at? a0.f1 x5807).elim 0 (fun vy12722 => vy12722.f0.length) + 1) 0 0).bind fun | .inl q_ => some (.inl q_) | .inr x12719 => ((swagelaw23_DeadLeaves.l2 y12 x5807 ((at? y12.f1 x5807).elim 0 (fun vy13013 => vy13013.f0.length) + 1) x12719).bind fun | .inl q_ => some (.inl q_) | .inr _ => (jn (fun (x13107 : Bool) => (if x13107 = true then some (.inl false) else swagelaw23_DeadLeaves.l0 a0 y12 n8688 (IntKind.i64.wrap (x5807 + 1)))) (fun j13108 => (at? y12.f1 x5807).bind fun y13157 => (deadstore_Dead.f y13157).bind fun (y13170 : (List Int)) => (if (!decide ((y13170.length : Int) = 0)) = true then j13108 true else (at? a0.f1 x5807).bind fun y13178 => j13108 (!((y13157.f1.f0 == y13178.f1.f0) && ((y13157.f1.f1 == y13178.f1.f1) && ((y13157.f1.f2 == y13178.f1.f2) && (y13157.f1.f3 == y13178.f1.f3))))))))) else some (.inr ()))
def swagelaw23_DeadLeaves.f (a0 : S36) : Option Bool := (swagelaw23_small.f).bind fun (y6 : Bool) => (swagelaw14_Few.f a0).bind fun (y8 : Bool) => (if (!y8) = true then some y6 else (deadstore_Func.f a0).bind fun (y12 : S36) => jn (fun (x44 : Bool) => (if x44 = true then some false else (swagelaw23_DeadLeaves.l0 a0 y12 (a0.f1.length + 1) 0).bind fun | .inl q_ => some q_ | .inr _ => (some y6))) (fun j45 => (if (!decide ((y12.f1.length : Int) = (a0.f1.length : Int))) = true then j45 true else (deadstore_Stores.f y12).bind fun (y14216 : Int) => (deadstore_Stores.f a0).bind fun (y14218 : Int) => j45 (decide (y14218 < y14216)))))
def swagelaw23_DeadLeaves.post (G : Gd) (r : Bool) (v : Value) (G' : Gd) (Lr : List Ch) : Prop := G = G' ∧ v = .bool r ∧ Lr = []
theorem swagelaw23_DeadLeaves.calls {G : Gd} {r : Bool} {a0 : S36} {A1 : Option Addr} {c2 : Nat} (hr3 : Rd G k28 A1 a0.f1) (hl4 : a0.f1.length ≤ c2) (h : swagelaw23_DeadLeaves.f a0 = some r) : Fn Try.prog 5 G [] [.agg #[.int .i64 a0.f0, .slice A1 a0.f1.length c2]] (swagelaw23_DeadLeaves.post G r) := by
  refine Fn.intro Try.func5 rfl Try.ntmps5 rfl (Nat.le_of_ble_eq_true rfl) (fun L => ?_)
  unfold swagelaw23_DeadLeaves.f at h
  refine TC.seq ?_
  refine TC.region ?_
  refine TL.cons (TL.box (cs := [.int .i64 a0.f0, .slice A1 a0.f1.length c2]) rfl rfl rfl rfl (fun b5 => ?_))
  refine TL.cons (TO.val rfl rfl rfl (Val.assign rfl) ?_)
  refine TL.nil ?_
  refine TQ.then_ ?_
  refine TC.seq ?_
  refine TC.region ?_
  obtain ⟨y6, hy7, h⟩ := bind_no h
  refine TL.cons (TL.callV (Lin := []) (args := []) rfl rfl rfl hb9 rfl rfl (swagelaw23_small.calls hy7) rfl ?_)
  rintro _ _ _ _ ⟨rfl, rfl, rfl⟩
  refine TL.cons (TO.val rfl rfl rfl (Val.assign rfl) ?_)
  refine TL.nil ?_
  refine TQ.then_ ?_
  refine TC.seq ?_
  refine TC.region ?_
  refine TL.cons (TO.val rfl rfl rfl (Val.loadsB 0 (cs := [.int .i64 a0.f0, .slice A1 a0.f1.length c2]) agg36 sz36 rfl rfl rfl rfl) ?_)
  obtain ⟨y8, hy9, h⟩ := bind_no h
  refine TL.cons (TL.callV (Lin := []) (args := [.agg #[.int .i64 a0.f0, .slice A1 a0.f1.length c2]]) rfl rfl rfl hb13 rfl rfl (swagelaw14_Few.calls (a0 := a0) hr3 hl4 hy9) rfl ?_)
  rintro _ _ _ _ ⟨rfl, rfl, rfl⟩
  refine TL.cons (TO.val rfl rfl rfl (Val.assign rfl) ?_)
  refine TL.nil ?_
  refine TQ.then_ ?_
  refine TC.seq ?_
  refine TC.seq ?_
  refine TC.region ?_
  refine TL.cons (TO.val rfl rfl rfl (Val.move rfl) ?_)
  refine TL.cons (TO.val rfl rfl rfl (Val.not_ rfl) ?_)
  refine TL.nil ?_
  refine TQ.then_ ?_
  refine TC.cond_b rfl h (fun hc11 h => ?_) (fun hc11 h => ?_)
  · refine TC.seq ?_
    refine TC.region ?_
    refine TL.cons (TO.val rfl rfl rfl (Val.move rfl) ?_)
    refine TL.cons (TO.val rfl rfl rfl (Val.assign rfl) ?_)
    refine TL.nil ?_
    refine TQ.then_ ?_
    refine TC.ret ?_
    refine TQ.thenR ?_
    obtain rfl := Option.some.inj h
    exact TQ.done (Ls := []) (.inl rfl) [] 1 Try.results5 (.tmp rfl .nil) rfl (Gd.le.refl _) rfl rfl rfl ⟨rfl, rfl, rfl⟩
  · refine TC.skip ?_
    refine TQ.then_ ?_
    refine TC.seq ?_
    refine TC.region ?_
    refine TL.cons (TO.val rfl rfl rfl (Val.loadsB 0 (cs := [.int .i64 a0.f0, .slice A1 a0.f1.length c2]) agg36 sz36 rfl rfl rfl rfl) ?_)
    obtain ⟨y12, hy13, h⟩ := bind_no h
    refine TL.cons (TL.callV (Lin := []) (args := [.agg #[.int .i64 a0.f0, .slice A1 a0.f1.length c2]]) rfl rfl rfl hb15 rfl rfl (deadstore_Func.calls (a0 := a0) hr3 hl4 hy13) rfl ?_)
    rintro _ _ _ _ ⟨rfl, A14, c15, rfl, rfl⟩
    refine TL.cons (TL.alloc (cs := [.int .i64 0, .slice none 0 0]) rfl rfl zr36 rfl (fun b17 => ?_))
    refine TL.cons (TL.store 0 (ds := [.int .i64 y12.f0, .slice A14 y12.f1.length c15]) (cs' := [.int .i64 y12.f0, .slice A14 y12.f1.length c15]) (L' := (Blk b17 [.int .i64 y12.f0, .slice A14 y12.f1.length c15] 36 :: Row k28 28 (.slice A14 y12.f1.length c15) y12.f1 :: Blk b5 [.int .i64 a0.f0, .slice A1 a0.f1.length c2] 36 :: L)) rfl sz36 rfl rfl rfl rfl rfl (Nat.le_of_ble_eq_true rfl) rfl rfl ?_)
    refine TL.nil ?_
    refine TQ.then_ ?_
    refine TC.seq ?_
    refine TC.seq ?_
    obtain ⟨j45, hj45, h⟩ := jn_no h
    refine TC.tail (fun a W => ∃ (x44 : Bool), j45 x44 = some r ∧ Fr 157 a [(1, .pointer (some ⟨b5, 0, none⟩)), (3, .bool y6), (5, .pointer (some ⟨b17, 0, none⟩)), (31, .bool x44)] ∧ Own G (Blk b17 [.int .i64 y12.f0, .slice A14 y12.f1.length c15] 36 :: Blk b5 [.int .i64 a0.f0, .slice A1 a0.f1.length c2] 36 :: Row k28 28 (.slice A14 y12.f1.length c15) y12.f1 :: L) W) ?_ ?_
    · rintro a W ⟨x44, h, hF, hO⟩
      rw [hj45] at h
      refine TQ.use ?_ hF hO
      clear hF hO
      refine TQ.then_ ?_
      refine TC.cond_b rfl h (fun hc47 h => ?_) (fun hc47 h => ?_)
      · refine TC.seq ?_
        refine TC.region ?_
        refine TL.cons (TO.val rfl rfl rfl (Val.assign rfl) ?_)
        refine TL.nil ?_
        refine TQ.then_ ?_
        refine TC.ret ?_
        refine TQ.thenR ?_
        obtain rfl := Option.some.inj h
        exact TQ.done (Ls := []) (.inl rfl) [] 3 Try.results5 (.tmp rfl .nil) rfl (Gd.le.refl _) rfl rfl rfl ⟨rfl, rfl, rfl⟩
      · refine TC.skip ?_
        refine TQ.then_ ?_
        refine TC.seq ?_
        refine TC.seq ?_
        refine TC.region ?_
        refine TL.cons (TO.val rfl rfl rfl (Val.assign rfl) ?_)
        refine TL.nil ?_
        refine TQ.then_ ?_
        obtain ⟨o8687, ho8687, ko8687⟩ := bind_no h
        clear h
        refine TC.tail (fun a W => (.inr ()) = o8687 ∧ Fr 157 a [(3, .bool y6)] ∧ Own G (L) W) ?_ ?_
        · rintro a W ⟨rfl, hF, hO⟩
          have h := ko8687
          clear ko8687 ho8687
          refine TQ.use ?_ hF hO
          clear hF hO
          refine TQ.then_ ?_
          refine TC.seq ?_
          refine TC.region ?_
          refine TL.cons (TO.val rfl rfl rfl (Val.move rfl) ?_)
          refine TL.cons (TO.val rfl rfl rfl (Val.assign rfl) ?_)
          refine TL.nil ?_
          refine TQ.then_ ?_
          refine TC.ret ?_
          obtain rfl := Option.some.inj h
          exact TQ.done (Ls := []) (.inl rfl) [] 0 Try.results5 (.tmp rfl .nil) rfl (Gd.le.refl _) rfl rfl rfl ⟨rfl, rfl, rfl⟩
        · refine TC.block ?_
          intro a W hF hO
          have hS : ∃ (x5807 : Int), swagelaw23_DeadLeaves.l0 a0 y12 (a0.f1.length + 1) x5807 = some o8687 ∧ Fr 157 a [(1, .pointer (some ⟨b5, 0, none⟩)), (3, .bool y6), (5, .pointer (some ⟨b17, 0, none⟩)), (6, .int .i64 x5807)] ∧ Own G (Blk b17 [.int .i64 y12.f0, .slice A14 y12.f1.length c15] 36 :: Blk b5 [.int .i64 a0.f0, .slice A1 a0.f1.length c2] 36 :: Row k28 28 (.slice A14 y12.f1.length c15) y12.f1 :: L) W := by
            exact ⟨0, ho8687, hF.sub ⟨rfl, rfl, rfl, rfl, trivial⟩, hO.selT (Ls := [Blk b17 [.int .i64 y12.f0, .slice A14 y12.f1.length c15] 36, Blk b5 [.int .i64 a0.f0, .slice A1 a0.f1.length c2] 36, Row k28 28 (.slice A14 y12.f1.length c15) y12.f1]) [0, 1, 2] 3 rfl rfl rfl⟩
          clear hF hO ho8687
          refine TC.loop (fun n8688 a W => ∃ (x5807 : Int), swagelaw23_DeadLeaves.l0 a0 y12 n8688 x5807 = some o8687 ∧ Fr 157 a [(1, .pointer (some ⟨b5, 0, none⟩)), (3, .bool y6), (5, .pointer (some ⟨b17, 0, none⟩)), (6, .int .i64 x5807)] ∧ Own G (Blk b17 [.int .i64 y12.f0, .slice A14 y12.f1.length c15] 36 :: Blk b5 [.int .i64 a0.f0, .slice A1 a0.f1.length c2] 36 :: Row k28 28 (.slice A14 y12.f1.length c15) y12.f1 :: L) W) ?_ ?_ hS
          · rintro a W ⟨x5807, h, hF, hO⟩
            exact none_no h
          · clear hS
            rintro n8688 a W ⟨x5807, h, hF, hO⟩
            rw [swagelaw23_DeadLeaves.l0] at h
            refine TC.use ?_ hF hO
            clear hF hO
            refine TC.seq ?_
            refine TC.seq ?_
            refine TC.region ?_
            refine TL.cons (TO.val rfl rfl rfl (Val.move rfl) ?_)
            refine TL.cons (TO.val rfl rfl rfl (Val.fieldAddrB Try.underlying36 rfl sz34 rfl rfl rfl) ?_)
            refine TL.cons (TO.val rfl rfl rfl (Val.loadB 1 agg34 rfl rfl rfl) ?_)
            refine TL.cons (TO.val rfl rfl rfl (Val.len Try.underlying34 rfl) ?_)
            refine TL.cons (TO.val rfl rfl rfl (Val.cmp rfl rfl run_lss) ?_)
            refine TL.nil ?_
            refine TQ.then_ ?_
            refine TC.cond_p rfl h (fun hc8691 h => ?_) (fun hc8691 h => ?_)
            · refine TC.skip ?_
              refine TQ.then_ ?_
              refine TC.seq ?_
              refine TC.block ?_
              refine TC.seq ?_
              refine TC.region ?_
              refine TL.cons (TO.val rfl rfl rfl (Val.assign rfl) ?_)
              refine TL.nil ?_
              refine TQ.then_ ?_
              refine TC.seq ?_
              refine TC.seq ?_
              refine TC.region ?_
              refine TL.cons (TO.val rfl rfl rfl (Val.assign rfl) ?_)
              refine TL.nil ?_
              refine TQ.then_ ?_
              obtain ⟨o12720, ho12720, ko12720⟩ := bind_no h
              clear h
              refine TC.tail (fun a W => ∃ (x12719 : Int), (.inr x12719) = o12720 ∧ Fr 157 a [(1, .pointer (some ⟨b5, 0, none⟩)), (3, .bool y6), (5, .pointer (some ⟨b17, 0, none⟩)), (6, .int .i64 x5807), (7, .int .i64 x12719)] ∧ Own G (Blk b17 [.int .i64 y12.f0, .slice A14 y12.f1.length c15] 36 :: Blk b5 [.int .i64 a0.f0, .slice A1 a0.f1.length c2] 36 :: Row k28 28 (.slice A14 y12.f1.length c15) y12.f1 :: L) W) ?_ ?_
              · rintro a W ⟨x12719, rfl, hF, hO⟩
                have h := ko12720
                clear ko12720 ho12720
                refine TQ.use ?_ hF hO
                clear hF hO
                refine TQ.then_ ?_
                refine TC.seq ?_
                obtain ⟨o13005, ho13005, ko13005⟩ := bind_no h
                clear h
                refine TC.tail (fun a W => (.inr ()) = o13005 ∧ Fr 157 a [(1, .pointer (some ⟨b5, 0, none⟩)), (3, .bool y6), (5, .pointer (some ⟨b17, 0, none⟩)), (6, .int .i64 x5807)] ∧ Own G (Blk b17 [.int .i64 y12.f0, .slice A14 y12.f1.length c15] 36 :: Blk b5 [.int .i64 a0.f0, .slice A1 a0.f1.length c2] 36 :: Row k28 28 (.slice A14 y12.f1.length c15) y12.f1 :: L) W) ?_ ?_
                · rintro a W ⟨rfl, hF, hO⟩
                  have h := ko13005
                  clear ko13005 ho13005
                  refine TQ.use ?_ hF hO
                  clear hF hO
                  refine TQ.then_ ?_
                  refine TC.seq ?_
                  obtain ⟨j13108, hj13108, h⟩ := jn_no h
                  refine TC.tail (fun a W => ∃ (x13107 : Bool), j13108 x13107 = some o8687 ∧ Fr 157 a [(1, .pointer (some ⟨b5, 0, none⟩)), (3, .bool y6), (5, .pointer (some ⟨b17, 0, none⟩)), (6, .int .i64 x5807), (155, .bool x13107)] ∧ Own G (Blk b17 [.int .i64 y12.f0, .slice A14 y12.f1.length c15] 36 :: Blk b5 [.int .i64 a0.f0, .slice A1 a0.f1.length c2] 36 :: Row k28 28 (.slice A14 y12.f1.length c15) y12.f1 :: L) W) ?_ ?_
                  · rintro a W ⟨x13107, h, hF, hO⟩
                    rw [hj13108] at h
                    refine TQ.use ?_ hF hO
                    clear hF hO
                    refine TQ.then_ ?_
                    refine TC.cond_b rfl h (fun hc13110 h => ?_) (fun hc13110 h => ?_)
                    · refine TC.seq ?_
                      refine TC.region ?_
                      refine TL.cons (TO.val rfl rfl rfl (Val.assign rfl) ?_)
                      refine TL.nil ?_
                      refine TQ.then_ ?_
                      refine TC.ret ?_
                      refine TQ.inBR ?_
                      refine TQ.thenR ?_
                      refine TQ.thenR ?_
                      refine TQ.inBR ?_
                      refine TQ.thenR ?_
                      refine TQ.thenR ?_
                      obtain rfl := Option.some.inj h
                      have h := ko8687
                      obtain rfl := Option.some.inj h
                      exact TQ.done (Ls := []) (.inl rfl) [] 3 Try.results5 (.tmp rfl .nil) rfl (Gd.le.refl _) rfl rfl rfl ⟨rfl, rfl, rfl⟩
                    · refine TC.skip ?_
                      refine TQ.inB ?_
                      refine TQ.then_ ?_
                      refine TC.region ?_
                      refine TL.cons (TO.val rfl rfl rfl (Val.move rfl) ?_)
                      refine TL.cons (TO.val rfl rfl rfl (Val.cmp rfl rfl run_add) ?_)
                      refine TL.cons (TO.val rfl rfl rfl (Val.assign rfl) ?_)
                      refine TL.nil ?_
                      exact fun a W hF hO => ⟨IntKind.i64.wrap (x5807 + 1), h, hF.sub ⟨rfl, rfl, rfl, rfl, trivial⟩, hO.selT (Ls := [Blk b17 [.int .i64 y12.f0, .slice A14 y12.f1.length c15] 36, Blk b5 [.int .i64 a0.f0, .slice A1 a0.f1.length c2] 36, Row k28 28 (.slice A14 y12.f1.length c15) y12.f1]) [0, 1, 2] 3 rfl rfl rfl⟩
                  · refine TC.sel (Ls := [Row k28 28 (.slice A14 y12.f1.length c15) y12.f1, Blk b17 [.int .i64 y12.f0, .slice A14 y12.f1.length c15] 36, Blk b5 [.int .i64 a0.f0, .slice A1 a0.f1.length c2] 36]) [2, 0, 1] 3 rfl rfl rfl ?_
                    refine TC.share (fun G13151 e13152 hs13153 hb13154 => ?_)
                    have rd13155 : Rd G13151 k28 A14 y12.f1 := Rd.row hs13153
                    have le13156 : y12.f1.length ≤ c15 := Row.le hs13153
                    refine TC.regionAny [] mixed ?_
                    refine TA.take 0 rfl (by kernel_rfl) rfl (PQ.then_ (PQ.then_ (PQ.inB (PQ.then_ (PQ.then_ (PQ.inB (PQ.then_ (PQ.then_ PQ.body)))))))) rfl (Val.fieldAddrB Try.underlying36 rfl sz34 rfl rfl rfl) (fun W hO => hO) ?_
                    refine TA.take 1 rfl (by kernel_rfl) rfl (PQ.then_ (PQ.then_ (PQ.inB (PQ.then_ (PQ.then_ (PQ.inB (PQ.then_ (PQ.then_ PQ.body)))))))) rfl (Val.loadB 0 agg34 rfl rfl rfl) (fun W hO => hO) ?_
                    refine TA.take 2 rfl (by kernel_rfl) rfl (PQ.then_ (PQ.then_ (PQ.inB (PQ.then_ (PQ.then_ (PQ.inB (PQ.then_ (PQ.then_ PQ.body)))))))) rfl (Val.move rfl) (fun W hO => hO) ?_
                    obtain ⟨y13157, hx13158, h⟩ := bind_no h
                    obtain ⟨ad13159, cs13165, hA13160, hi13161, hj13162, hcl13163, hK13164⟩ := Rd.at rd13155 hx13158
                    obtain ⟨A13166, c13167, rfl, hr13168, hl13169⟩ := k28_openR hK13164
                    refine TA.take 3 rfl (by kernel_rfl) rfl (PQ.then_ (PQ.then_ (PQ.inB (PQ.then_ (PQ.then_ (PQ.inB (PQ.then_ (PQ.then_ PQ.body)))))))) rfl (Val.indexAddr Try.underlying34 sz28 rfl hA13160 rfl hi13161 hj13162) (fun W hO => hO) ?_
                    refine TA.take 4 rfl (by kernel_rfl) rfl (PQ.then_ (PQ.then_ (PQ.inB (PQ.then_ (PQ.then_ (PQ.inB (PQ.then_ (PQ.then_ PQ.body)))))))) rfl (Val.loadsS (cs := [.slice A13166 y13157.f0.length c13167, .int .i64 y13157.f1.f0, .int .i64 y13157.f1.f1, .int .i64 y13157.f1.f2, .int .i64 y13157.f1.f3]) agg28 sz28 rfl rfl (Cl.sub (off := 0) (n := 5) hcl13163 rfl)) (fun W hO => hO) ?_
                    obtain ⟨y13170, hy13171, h⟩ := bind_no h
                    refine TA.eff 5 rfl (by kernel_rfl) rfl (TL.callV (Lin := []) (args := [.agg #[.slice A13166 y13157.f0.length c13167, .int .i64 y13157.f1.f0, .int .i64 y13157.f1.f1, .int .i64 y13157.f1.f2, .int .i64 y13157.f1.f3]]) rfl rfl rfl hb10 rfl rfl (deadstore_Dead.calls (a0 := y13157) hr13168 hl13169 hy13171) rfl ?_)
                    rintro _ _ _ _ ⟨rfl, A13172, c13173, rfl, rfl⟩
                    refine TA.next (fun W hO => hO.selT (Ls := [Blk b17 [.int .i64 y12.f0, .slice A14 y12.f1.length c15] 36, Blk b5 [.int .i64 a0.f0, .slice A1 a0.f1.length c2] 36]) [1, 2] 3 rfl rfl rfl) ?_
                    refine TA.take 6 rfl (by kernel_rfl) rfl (PQ.then_ (PQ.then_ (PQ.inB (PQ.then_ (PQ.then_ (PQ.inB (PQ.then_ (PQ.then_ PQ.body)))))))) rfl (Val.len Try.underlying22 rfl) (fun W hO => hO.selT (Ls := [Blk b17 [.int .i64 y12.f0, .slice A14 y12.f1.length c15] 36, Blk b5 [.int .i64 a0.f0, .slice A1 a0.f1.length c2] 36]) [1, 2] 3 rfl rfl rfl) ?_
                    refine TA.take 7 rfl (by kernel_rfl) rfl (PQ.then_ (PQ.then_ (PQ.inB (PQ.then_ (PQ.then_ (PQ.inB (PQ.then_ (PQ.then_ PQ.body)))))))) rfl (Val.cmp rfl rfl run_neq) (fun W hO => hO.selT (Ls := [Blk b17 [.int .i64 y12.f0, .slice A14 y12.f1.length c15] 36, Blk b5 [.int .i64 a0.f0, .slice A1 a0.f1.length c2] 36]) [1, 2] 3 rfl rfl rfl) ?_
                    refine TA.take 8 rfl (by kernel_rfl) rfl (PQ.then_ (PQ.then_ (PQ.inB (PQ.then_ (PQ.then_ (PQ.inB (PQ.then_ (PQ.then_ PQ.body)))))))) rfl (Val.move rfl) (fun W hO => hO.selT (Ls := [Blk b17 [.int .i64 y12.f0, .slice A14 y12.f1.length c15] 36, Blk b5 [.int .i64 a0.f0, .slice A1 a0.f1.length c2] 36]) [1, 2] 3 rfl rfl rfl) ?_
                    refine TK.split (p := (!decide ((y13170.length : Int) = 0)) = true) h (fun hg13175 h => ?_) (fun hg13175 h => ?_)
                    · have hk13176 : (!decide ((y13170.length : Int) = 0)) = true := hg13175
                      refine TA.not 9 rfl (by kernel_rfl) rfl (PQ.then_ (PQ.then_ (PQ.inB (PQ.then_ (PQ.then_ (PQ.inB (PQ.then_ (PQ.then_ PQ.body)))))))) (Wt.no rfl rfl rfl hk13176) (fun W hO => hO.selT (Ls := [Blk b17 [.int .i64 y12.f0, .slice A14 y12.f1.length c15] 36, Blk b5 [.int .i64 a0.f0, .slice A1 a0.f1.length c2] 36]) [1, 2] 3 rfl rfl rfl) ?_
                      refine TA.not 10 rfl (by kernel_rfl) rfl (PQ.then_ (PQ.then_ (PQ.inB (PQ.then_ (PQ.then_ (PQ.inB (PQ.then_ (PQ.then_ PQ.body)))))))) (Wt.no rfl rfl rfl hk13176) (fun W hO => hO.selT (Ls := [Blk b17 [.int .i64 y12.f0, .slice A14 y12.f1.length c15] 36, Blk b5 [.int .i64 a0.f0, .slice A1 a0.f1.length c2] 36]) [1, 2] 3 rfl rfl rfl) ?_
                      refine TA.not 11 rfl (by kernel_rfl) rfl (PQ.then_ (PQ.then_ (PQ.inB (PQ.then_ (PQ.then_ (PQ.inB (PQ.then_ (PQ.then_ PQ.body)))))))) (Wt.no rfl rfl rfl hk13176) (fun W hO => hO.selT (Ls := [Blk b17 [.int .i64 y12.f0, .slice A14 y12.f1.length c15] 36, Blk b5 [.int .i64 a0.f0, .slice A1 a0.f1.length c2] 36]) [1, 2] 3 rfl rfl rfl) ?_
                      refine TA.not 12 rfl (by kernel_rfl) rfl (PQ.then_ (PQ.then_ (PQ.inB (PQ.then_ (PQ.then_ (PQ.inB (PQ.then_ (PQ.then_ PQ.body)))))))) (Wt.no rfl rfl rfl hk13176) (fun W hO => hO.selT (Ls := [Blk b17 [.int .i64 y12.f0, .slice A14 y12.f1.length c15] 36, Blk b5 [.int .i64 a0.f0, .slice A1 a0.f1.length c2] 36]) [1, 2] 3 rfl rfl rfl) ?_
                      refine TA.not 13 rfl (by kernel_rfl) rfl (PQ.then_ (PQ.then_ (PQ.inB (PQ.then_ (PQ.then_ (PQ.inB (PQ.then_ (PQ.then_ PQ.body)))))))) (Wt.no rfl rfl rfl hk13176) (fun W hO => hO.selT (Ls := [Blk b17 [.int .i64 y12.f0, .slice A14 y12.f1.length c15] 36, Blk b5 [.int .i64 a0.f0, .slice A1 a0.f1.length c2] 36]) [1, 2] 3 rfl rfl rfl) ?_
                      refine TA.not 14 rfl (by kernel_rfl) rfl (PQ.then_ (PQ.then_ (PQ.inB (PQ.then_ (PQ.then_ (PQ.inB (PQ.then_ (PQ.then_ PQ.body)))))))) (Wt.no rfl rfl rfl hk13176) (fun W hO => hO.selT (Ls := [Blk b17 [.int .i64 y12.f0, .slice A14 y12.f1.length c15] 36, Blk b5 [.int .i64 a0.f0, .slice A1 a0.f1.length c2] 36]) [1, 2] 3 rfl rfl rfl) ?_
                      refine TA.not 15 rfl (by kernel_rfl) rfl (PQ.then_ (PQ.then_ (PQ.inB (PQ.then_ (PQ.then_ (PQ.inB (PQ.then_ (PQ.then_ PQ.body)))))))) (Wt.no rfl rfl rfl hk13176) (fun W hO => hO.selT (Ls := [Blk b17 [.int .i64 y12.f0, .slice A14 y12.f1.length c15] 36, Blk b5 [.int .i64 a0.f0, .slice A1 a0.f1.length c2] 36]) [1, 2] 3 rfl rfl rfl) ?_
                      refine TA.not 16 rfl (by kernel_rfl) rfl (PQ.then_ (PQ.then_ (PQ.inB (PQ.then_ (PQ.then_ (PQ.inB (PQ.then_ (PQ.then_ PQ.body)))))))) (Wt.no rfl rfl rfl hk13176) (fun W hO => hO.selT (Ls := [Blk b17 [.int .i64 y12.f0, .slice A14 y12.f1.length c15] 36, Blk b5 [.int .i64 a0.f0, .slice A1 a0.f1.length c2] 36]) [1, 2] 3 rfl rfl rfl) ?_
                      refine TA.not 17 rfl (by kernel_rfl) rfl (PQ.then_ (PQ.then_ (PQ.inB (PQ.then_ (PQ.then_ (PQ.inB (PQ.then_ (PQ.then_ PQ.body)))))))) (Wt.no rfl rfl rfl hk13176) (fun W hO => hO.selT (Ls := [Blk b17 [.int .i64 y12.f0, .slice A14 y12.f1.length c15] 36, Blk b5 [.int .i64 a0.f0, .slice A1 a0.f1.length c2] 36]) [1, 2] 3 rfl rfl rfl) ?_
                      refine TA.not 18 rfl (by kernel_rfl) rfl (PQ.then_ (PQ.then_ (PQ.inB (PQ.then_ (PQ.then_ (PQ.inB (PQ.then_ (PQ.then_ PQ.body)))))))) (Wt.no rfl rfl rfl hk13176) (fun W hO => hO.selT (Ls := [Blk b17 [.int .i64 y12.f0, .slice A14 y12.f1.length c15] 36, Blk b5 [.int .i64 a0.f0, .slice A1 a0.f1.length c2] 36]) [1, 2] 3 rfl rfl rfl) ?_
                      refine TA.not 19 rfl (by kernel_rfl) rfl (PQ.then_ (PQ.then_ (PQ.inB (PQ.then_ (PQ.then_ (PQ.inB (PQ.then_ (PQ.then_ PQ.body)))))))) (Wt.no rfl rfl rfl hk13176) (fun W hO => hO.selT (Ls := [Blk b17 [.int .i64 y12.f0, .slice A14 y12.f1.length c15] 36, Blk b5 [.int .i64 a0.f0, .slice A1 a0.f1.length c2] 36]) [1, 2] 3 rfl rfl rfl) ?_
                      refine TA.not 20 rfl (by kernel_rfl) rfl (PQ.then_ (PQ.then_ (PQ.inB (PQ.then_ (PQ.then_ (PQ.inB (PQ.then_ (PQ.then_ PQ.body)))))))) (Wt.no rfl rfl rfl hk13176) (fun W hO => hO.selT (Ls := [Blk b17 [.int .i64 y12.f0, .slice A14 y12.f1.length c15] 36, Blk b5 [.int .i64 a0.f0, .slice A1 a0.f1.length c2] 36]) [1, 2] 3 rfl rfl rfl) ?_
                      refine TA.not 21 rfl (by kernel_rfl) rfl (PQ.then_ (PQ.then_ (PQ.inB (PQ.then_ (PQ.then_ (PQ.inB (PQ.then_ (PQ.then_ PQ.body)))))))) (Wt.no rfl rfl rfl hk13176) (fun W hO => hO.selT (Ls := [Blk b17 [.int .i64 y12.f0, .slice A14 y12.f1.length c15] 36, Blk b5 [.int .i64 a0.f0, .slice A1 a0.f1.length c2] 36]) [1, 2] 3 rfl rfl rfl) ?_
                      refine TA.take 22 rfl (by kernel_rfl) rfl (PQ.then_ (PQ.then_ (PQ.inB (PQ.then_ (PQ.then_ (PQ.inB (PQ.then_ (PQ.then_ PQ.body)))))))) rfl (Val.pickY rfl hk13176 rfl) (fun W hO => hO.selT (Ls := [Blk b17 [.int .i64 y12.f0, .slice A14 y12.f1.length c15] 36, Blk b5 [.int .i64 a0.f0, .slice A1 a0.f1.length c2] 36]) [1, 2] 3 rfl rfl rfl) ?_
                      refine TA.done (by kernel_rfl) ?_
                      refine TQ.back hb13154 ?_
                      exact fun a W hF hO => ⟨true, h, hF.sub ⟨rfl, rfl, rfl, rfl, rfl, trivial⟩, hO.selT (Ls := [Blk b17 [.int .i64 y12.f0, .slice A14 y12.f1.length c15] 36, Blk b5 [.int .i64 a0.f0, .slice A1 a0.f1.length c2] 36, Row k28 28 (.slice A14 y12.f1.length c15) y12.f1]) [2, 3, 0] 4 rfl rfl rfl⟩
                    · have hk13177 : (!decide ((y13170.length : Int) = 0)) = false := (by simpa using hg13175)
                      refine TA.take 9 rfl (by kernel_rfl) rfl (PQ.then_ (PQ.then_ (PQ.inB (PQ.then_ (PQ.then_ (PQ.inB (PQ.then_ (PQ.then_ PQ.body)))))))) (Wt.yes rfl rfl rfl hk13177) (Val.fieldAddrB Try.underlying36 rfl sz34 rfl rfl rfl) (fun W hO => hO.selT (Ls := [Blk b17 [.int .i64 y12.f0, .slice A14 y12.f1.length c15] 36, Blk b5 [.int .i64 a0.f0, .slice A1 a0.f1.length c2] 36]) [1, 2] 3 rfl rfl rfl) ?_
                      refine TA.take 10 rfl (by kernel_rfl) rfl (PQ.then_ (PQ.then_ (PQ.inB (PQ.then_ (PQ.then_ (PQ.inB (PQ.then_ (PQ.then_ PQ.body)))))))) (Wt.yes rfl rfl rfl hk13177) (Val.loadB 0 agg34 rfl rfl rfl) (fun W hO => hO.selT (Ls := [Blk b17 [.int .i64 y12.f0, .slice A14 y12.f1.length c15] 36, Blk b5 [.int .i64 a0.f0, .slice A1 a0.f1.length c2] 36]) [1, 2] 3 rfl rfl rfl) ?_
                      refine TA.take 11 rfl (by kernel_rfl) rfl (PQ.then_ (PQ.then_ (PQ.inB (PQ.then_ (PQ.then_ (PQ.inB (PQ.then_ (PQ.then_ PQ.body)))))))) (Wt.yes rfl rfl rfl hk13177) (Val.move rfl) (fun W hO => hO.selT (Ls := [Blk b17 [.int .i64 y12.f0, .slice A14 y12.f1.length c15] 36, Blk b5 [.int .i64 a0.f0, .slice A1 a0.f1.length c2] 36]) [1, 2] 3 rfl rfl rfl) ?_
                      refine TA.take 12 rfl (by kernel_rfl) rfl (PQ.then_ (PQ.then_ (PQ.inB (PQ.then_ (PQ.then_ (PQ.inB (PQ.then_ (PQ.then_ PQ.body)))))))) (Wt.yes rfl rfl rfl hk13177) (Val.indexAddr Try.underlying34 sz28 rfl hA13160 rfl hi13161 hj13162) (fun W hO => hO.selT (Ls := [Blk b17 [.int .i64 y12.f0, .slice A14 y12.f1.length c15] 36, Blk b5 [.int .i64 a0.f0, .slice A1 a0.f1.length c2] 36]) [1, 2] 3 rfl rfl rfl) ?_
                      refine TA.take 13 rfl (by kernel_rfl) rfl (PQ.then_ (PQ.then_ (PQ.inB (PQ.then_ (PQ.then_ (PQ.inB (PQ.then_ (PQ.then_ PQ.body)))))))) (Wt.yes rfl rfl rfl hk13177) (Val.fieldAddrE Try.underlying28 rfl sz25 rfl rfl) (fun W hO => hO.selT (Ls := [Blk b17 [.int .i64 y12.f0, .slice A14 y12.f1.length c15] 36, Blk b5 [.int .i64 a0.f0, .slice A1 a0.f1.length c2] 36]) [1, 2] 3 rfl rfl rfl) ?_
                      refine TA.take 14 rfl (by kernel_rfl) rfl (PQ.then_ (PQ.then_ (PQ.inB (PQ.then_ (PQ.then_ (PQ.inB (PQ.then_ (PQ.then_ PQ.body)))))))) (Wt.yes rfl rfl rfl hk13177) (Val.loadsS (cs := [.int .i64 y13157.f1.f0, .int .i64 y13157.f1.f1, .int .i64 y13157.f1.f2, .int .i64 y13157.f1.f3]) agg25 sz25 rfl rfl (Cl.sub (off := 1) (n := 4) hcl13163 rfl)) (fun W hO => hO.selT (Ls := [Blk b17 [.int .i64 y12.f0, .slice A14 y12.f1.length c15] 36, Blk b5 [.int .i64 a0.f0, .slice A1 a0.f1.length c2] 36]) [1, 2] 3 rfl rfl rfl) ?_
                      refine TA.take 15 rfl (by kernel_rfl) rfl (PQ.then_ (PQ.then_ (PQ.inB (PQ.then_ (PQ.then_ (PQ.inB (PQ.then_ (PQ.then_ PQ.body)))))))) (Wt.yes rfl rfl rfl hk13177) (Val.fieldAddrB Try.underlying36 rfl sz34 rfl rfl rfl) (fun W hO => hO.selT (Ls := [Blk b17 [.int .i64 y12.f0, .slice A14 y12.f1.length c15] 36, Blk b5 [.int .i64 a0.f0, .slice A1 a0.f1.length c2] 36]) [1, 2] 3 rfl rfl rfl) ?_
                      refine TA.take 16 rfl (by kernel_rfl) rfl (PQ.then_ (PQ.then_ (PQ.inB (PQ.then_ (PQ.then_ (PQ.inB (PQ.then_ (PQ.then_ PQ.body)))))))) (Wt.yes rfl rfl rfl hk13177) (Val.loadB 1 agg34 rfl rfl rfl) (fun W hO => hO.selT (Ls := [Blk b17 [.int .i64 y12.f0, .slice A14 y12.f1.length c15] 36, Blk b5 [.int .i64 a0.f0, .slice A1 a0.f1.length c2] 36]) [1, 2] 3 rfl rfl rfl) ?_
                      refine TA.take 17 rfl (by kernel_rfl) rfl (PQ.then_ (PQ.then_ (PQ.inB (PQ.then_ (PQ.then_ (PQ.inB (PQ.then_ (PQ.then_ PQ.body)))))))) (Wt.yes rfl rfl rfl hk13177) (Val.move rfl) (fun W hO => hO.selT (Ls := [Blk b17 [.int .i64 y12.f0, .slice A14 y12.f1.length c15] 36, Blk b5 [.int .i64 a0.f0, .slice A1 a0.f1.length c2] 36]) [1, 2] 3 rfl rfl rfl) ?_
                      obtain ⟨y13178, hx13179, h⟩ := bind_no h
                      obtain ⟨ad13180, cs13186, hA13181, hi13182, hj13183, hcl13184, hK13185⟩ := Rd.at (hr3.up e13152) hx13179
                      obtain ⟨A13187, c13188, rfl, hr13189, hl13190⟩ := k28_openR hK13185
                      refine TA.take 18 rfl (by kernel_rfl) rfl (PQ.then_ (PQ.then_ (PQ.inB (PQ.then_ (PQ.then_ (PQ.inB (PQ.then_ (PQ.then_ PQ.body)))))))) (Wt.yes rfl rfl rfl hk13177) (Val.indexAddr Try.underlying34 sz28 rfl hA13181 rfl hi13182 hj13183) (fun W hO => hO.selT (Ls := [Blk b17 [.int .i64 y12.f0, .slice A14 y12.f1.length c15] 36, Blk b5 [.int .i64 a0.f0, .slice A1 a0.f1.length c2] 36]) [1, 2] 3 rfl rfl rfl) ?_
                      refine TA.take 19 rfl (by kernel_rfl) rfl (PQ.then_ (PQ.then_ (PQ.inB (PQ.then_ (PQ.then_ (PQ.inB (PQ.then_ (PQ.then_ PQ.body)))))))) (Wt.yes rfl rfl rfl hk13177) (Val.fieldAddrE Try.underlying28 rfl sz25 rfl rfl) (fun W hO => hO.selT (Ls := [Blk b17 [.int .i64 y12.f0, .slice A14 y12.f1.length c15] 36, Blk b5 [.int .i64 a0.f0, .slice A1 a0.f1.length c2] 36]) [1, 2] 3 rfl rfl rfl) ?_
                      refine TA.take 20 rfl (by kernel_rfl) rfl (PQ.then_ (PQ.then_ (PQ.inB (PQ.then_ (PQ.then_ (PQ.inB (PQ.then_ (PQ.then_ PQ.body)))))))) (Wt.yes rfl rfl rfl hk13177) (Val.loadsS (cs := [.int .i64 y13178.f1.f0, .int .i64 y13178.f1.f1, .int .i64 y13178.f1.f2, .int .i64 y13178.f1.f3]) agg25 sz25 rfl rfl (Cl.sub (off := 1) (n := 4) hcl13184 rfl)) (fun W hO => hO.selT (Ls := [Blk b17 [.int .i64 y12.f0, .slice A14 y12.f1.length c15] 36, Blk b5 [.int .i64 a0.f0, .slice A1 a0.f1.length c2] 36]) [1, 2] 3 rfl rfl rfl) ?_
                      refine TA.take 21 rfl (by kernel_rfl) rfl (PQ.then_ (PQ.then_ (PQ.inB (PQ.then_ (PQ.then_ (PQ.inB (PQ.then_ (PQ.then_ PQ.body)))))))) (Wt.yes rfl rfl rfl hk13177) (Val.neA eqg25 rfl rfl (fun W => eqs25 9998 W _ _ _ _ _ _ _ _)) (fun W hO => hO.selT (Ls := [Blk b17 [.int .i64 y12.f0, .slice A14 y12.f1.length c15] 36, Blk b5 [.int .i64 a0.f0, .slice A1 a0.f1.length c2] 36]) [1, 2] 3 rfl rfl rfl) ?_
                      refine TA.take 22 rfl (by kernel_rfl) rfl (PQ.then_ (PQ.then_ (PQ.inB (PQ.then_ (PQ.then_ (PQ.inB (PQ.then_ (PQ.then_ PQ.body)))))))) rfl (Val.pickN rfl hk13177 rfl) (fun W hO => hO.selT (Ls := [Blk b17 [.int .i64 y12.f0, .slice A14 y12.f1.length c15] 36, Blk b5 [.int .i64 a0.f0, .slice A1 a0.f1.length c2] 36]) [1, 2] 3 rfl rfl rfl) ?_
                      refine TA.done (by kernel_rfl) ?_
                      refine TQ.back hb13154 ?_
                      exact fun a W hF hO => ⟨(!((y13157.f1.f0 == y13178.f1.f0) && ((y13157.f1.f1 == y13178.f1.f1) && ((y13157.f1.f2 == y13178.f1.f2) && (y13157.f1.f3 == y13178.f1.f3))))), h, hF.sub ⟨rfl, rfl, rfl, rfl, rfl, trivial⟩, hO.selT (Ls := [Blk b17 [.int .i64 y12.f0, .slice A14 y12.f1.length c15] 36, Blk b5 [.int .i64 a0.f0, .slice A1 a0.f1.length c2] 36, Row k28 28 (.slice A14 y12.f1.length c15) y12.f1]) [2, 3, 0] 4 rfl rfl rfl⟩
                · refine TC.block ?_
                  intro a W hF hO
                  have hS : ∃ (x12915 : Int), swagelaw23_DeadLeaves.l2 y12 x5807 ((at? y12.f1 x5807).elim 0 (fun vy13013 => vy13013.f0.length) + 1) x12915 = some o13005 ∧ Fr 157 a [(1, .pointer (some ⟨b5, 0, none⟩)), (3, .bool y6), (5, .pointer (some ⟨b17, 0, none⟩)), (6, .int .i64 x5807), (7, .int .i64 x12915)] ∧ Own G (Blk b17 [.int .i64 y12.f0, .slice A14 y12.f1.length c15] 36 :: Blk b5 [.int .i64 a0.f0, .slice A1 a0.f1.length c2] 36 :: Row k28 28 (.slice A14 y12.f1.length c15) y12.f1 :: L) W := by
                    exact ⟨x12719, ho13005, hF.sub ⟨rfl, rfl, rfl, rfl, rfl, trivial⟩, hO.selT (Ls := [Blk b17 [.int .i64 y12.f0, .slice A14 y12.f1.length c15] 36, Blk b5 [.int .i64 a0.f0, .slice A1 a0.f1.length c2] 36, Row k28 28 (.slice A14 y12.f1.length c15) y12.f1]) [0, 1, 2] 3 rfl rfl rfl⟩
                  clear hF hO ho13005
                  refine TC.loop (fun n13006 a W => ∃ (x12915 : Int), swagelaw23_DeadLeaves.l2 y12 x5807 n13006 x12915 = some o13005 ∧ Fr 157 a [(1, .pointer (some ⟨b5, 0, none⟩)), (3, .bool y6), (5, .pointer (some ⟨b17, 0, none⟩)), (6, .int .i64 x5807), (7, .int .i64 x12915)] ∧ Own G (Blk b17 [.int .i64 y12.f0, .slice A14 y12.f1.length c15] 36 :: Blk b5 [.int .i64 a0.f0, .slice A1 a0.f1.length c2] 36 :: Row k28 28 (.slice A14 y12.f1.length c15) y12.f1 :: L) W) ?_ ?_ hS
                  · rintro a W ⟨x12915, h, hF, hO⟩
                    exact none_no h
                  · clear hS
                    rintro n13006 a W ⟨x12915, h, hF, hO⟩
                    rw [swagelaw23_DeadLeaves.l2] at h
                    refine TC.use ?_ hF hO
                    clear hF hO
                    refine TC.seq ?_
                    refine TC.seq ?_
                    refine TC.region ?_
                    refine TL.cons (TO.val rfl rfl rfl (Val.move rfl) ?_)
                    refine TL.cons (TO.val rfl rfl rfl (Val.fieldAddrB Try.underlying36 rfl sz34 rfl rfl rfl) ?_)
                    refine TL.cons (TO.val rfl rfl rfl (Val.loadB 0 agg34 rfl rfl rfl) ?_)
                    refine TL.cons (TO.val rfl rfl rfl (Val.move rfl) ?_)
                    refine TK.sel (Ls := [Row k28 28 (.slice A14 y12.f1.length c15) y12.f1, Blk b17 [.int .i64 y12.f0, .slice A14 y12.f1.length c15] 36, Blk b5 [.int .i64 a0.f0, .slice A1 a0.f1.length c2] 36]) [2, 0, 1] 3 rfl rfl rfl ?_
                    refine TK.share (fun G13191 e13192 hs13193 hb13194 => ?_)
                    have rd13195 : Rd G13191 k28 A14 y12.f1 := Rd.row hs13193
                    have le13196 : y12.f1.length ≤ c15 := Row.le hs13193
                    obtain ⟨y13197, hx13198, h⟩ := bind_no h
                    obtain ⟨ad13199, cs13205, hA13200, hi13201, hj13202, hcl13203, hK13204⟩ := Rd.at rd13195 hx13198
                    obtain ⟨A13206, c13207, rfl, hr13208, hl13209⟩ := k28_openR hK13204
                    refine TL.cons (TO.val rfl rfl rfl (Val.indexAddr Try.underlying34 sz28 rfl hA13200 rfl hi13201 hj13202) ?_)
                    refine TL.cons (TO.val rfl rfl rfl (Val.fieldAddrE Try.underlying28 rfl sz26 rfl rfl) ?_)
                    refine TL.cons (TO.val rfl rfl rfl (Val.loadS agg26 rfl (hcl13203 0 _ rfl)) ?_)
                    refine TL.cons (TO.val rfl rfl rfl (Val.len Try.underlying26 rfl) ?_)
                    refine TL.cons (TO.val rfl rfl rfl (Val.cmp rfl rfl run_lss) ?_)
                    refine TL.nil ?_
                    refine TQ.then_ ?_
                    refine TC.back hb13194 ?_
                    refine TC.cond_p rfl h (fun hc13211 h => ?_) (fun hc13211 h => ?_)
                    · refine TC.skip ?_
                      refine TQ.then_ ?_
                      refine TC.block ?_
                      refine TC.seq ?_
                      refine TC.seq ?_
                      refine TC.region ?_
                      refine TL.cons (TO.val rfl rfl rfl (Val.fieldAddrB Try.underlying36 rfl sz34 rfl rfl rfl) ?_)
                      refine TL.cons (TO.val rfl rfl rfl (Val.loadB 1 agg34 rfl rfl rfl) ?_)
                      refine TL.cons (TO.val rfl rfl rfl (Val.move rfl) ?_)
                      refine TK.share (fun G13246 e13247 hs13248 hb13249 => ?_)
                      have rd13250 : Rd G13246 k28 A14 y12.f1 := Rd.row hs13248
                      have le13251 : y12.f1.length ≤ c15 := Row.le hs13248
                      obtain ⟨y13252, hx13253, h⟩ := bind_no h
                      obtain ⟨ad13254, cs13260, hA13255, hi13256, hj13257, hcl13258, hK13259⟩ := Rd.at rd13250 hx13253
                      obtain ⟨A13261, c13262, rfl, hr13263, hl13264⟩ := k28_openR hK13259
                      refine TL.cons (TO.val rfl rfl rfl (Val.indexAddr Try.underlying34 sz28 rfl hA13255 rfl hi13256 hj13257) ?_)
                      refine TL.cons (TO.val rfl rfl rfl (Val.fieldAddrE Try.underlying28 rfl sz26 rfl rfl) ?_)
                      refine TL.cons (TO.val rfl rfl rfl (Val.loadS agg26 rfl (hcl13258 0 _ rfl)) ?_)
                      refine TL.cons (TO.val rfl rfl rfl (Val.move rfl) ?_)
                      obtain ⟨y13265, hx13266, h⟩ := bind_no h
                      obtain ⟨ad13267, cs13273, hA13268, hi13269, hj13270, hcl13271, hK13272⟩ := Rd.at hr13263 hx13266
                      obtain ⟨A13274, c13275, rfl, hr13276, hl13277⟩ := k30_openR hK13272
                      refine TL.cons (TO.val rfl rfl rfl (Val.indexAddr Try.underlying26 sz30 rfl hA13268 rfl hi13269 hj13270) ?_)
                      refine TL.cons (TO.val rfl rfl rfl (Val.fieldAddrE Try.underlying30 rfl sz3 rfl rfl) ?_)
                      refine TL.cons (TO.val rfl rfl rfl (Val.loadS agg3 rfl (hcl13271 0 _ rfl)) ?_)
                      refine TL.cons (TO.val rfl rfl rfl (Val.cmp rfl rfl run_neq) ?_)
                      refine TL.nil ?_
                      refine TQ.then_ ?_
                      refine TC.back hb13249 ?_
                      refine TC.cond_b rfl h (fun hc13279 h => ?_) (fun hc13279 h => ?_)
                      · refine TC.seq ?_
                        refine TC.region ?_
                        refine TL.cons (TO.val rfl rfl rfl (Val.assign rfl) ?_)
                        refine TL.nil ?_
                        refine TQ.then_ ?_
                        refine TC.ret ?_
                        refine TQ.thenR ?_
                        refine TQ.inBR ?_
                        refine TQ.thenR ?_
                        refine TQ.inBR ?_
                        refine TQ.thenR ?_
                        refine TQ.thenR ?_
                        refine TQ.inBR ?_
                        refine TQ.thenR ?_
                        refine TQ.thenR ?_
                        refine TQ.inBR ?_
                        refine TQ.thenR ?_
                        refine TQ.thenR ?_
                        obtain rfl := Option.some.inj h
                        have h := ko13005
                        obtain rfl := Option.some.inj h
                        have h := ko8687
                        obtain rfl := Option.some.inj h
                        exact TQ.done (Ls := []) (.inl rfl) [] 3 Try.results5 (.tmp rfl .nil) rfl (Gd.le.refl _) rfl rfl rfl ⟨rfl, rfl, rfl⟩
                      · refine TC.skip ?_
                        refine TQ.then_ ?_
                        refine TC.region ?_
                        refine TL.cons (TO.val rfl rfl rfl (Val.move rfl) ?_)
                        refine TL.cons (TO.val rfl rfl rfl (Val.cmp rfl rfl run_add) ?_)
                        refine TL.cons (TO.val rfl rfl rfl (Val.assign rfl) ?_)
                        refine TL.nil ?_
                        refine TQ.inB ?_
                        exact fun a W hF hO => ⟨IntKind.i64.wrap (x12915 + 1), h, hF.sub ⟨rfl, rfl, rfl, rfl, rfl, trivial⟩, hO.selT (Ls := [Blk b17 [.int .i64 y12.f0, .slice A14 y12.f1.length c15] 36, Blk b5 [.int .i64 a0.f0, .slice A1 a0.f1.length c2] 36, Row k28 28 (.slice A14 y12.f1.length c15) y12.f1]) [1, 2, 0] 3 rfl rfl rfl⟩
                    · refine TC.exit ?_
                      refine TQ.thenX ?_
                      refine TQ.thenX ?_
                      refine TQ.inBX ?_
                      exact fun a W hF hO => ⟨Option.some.inj h, hF.sub ⟨rfl, rfl, rfl, rfl, trivial⟩, hO.selT (Ls := [Blk b17 [.int .i64 y12.f0, .slice A14 y12.f1.length c15] 36, Blk b5 [.int .i64 a0.f0, .slice A1 a0.f1.length c2] 36, Row k28 28 (.slice A14 y12.f1.length c15) y12.f1]) [1, 2, 0] 3 rfl rfl rfl⟩
              · refine TC.block ?_
                intro a W hF hO
                have hS : ∃ (x12025 : Int) (x12026 : Int), swagelaw23_DeadLeaves.l1 a0 y12 x5807 ((at? a0.f1 x5807).elim 0 (fun vy12722 => vy12722.f0.length) + 1) x12025 x12026 = some o12720 ∧ Fr 157 a [(1, .pointer (some ⟨b5, 0, none⟩)), (3, .bool y6), (5, .pointer (some ⟨b17, 0, none⟩)), (6, .int .i64 x5807), (7, .int .i64 x12025), (8, .int .i64 x12026)] ∧ Own G (Blk b17 [.int .i64 y12.f0, .slice A14 y12.f1.length c15] 36 :: Blk b5 [.int .i64 a0.f0, .slice A1 a0.f1.length c2] 36 :: Row k28 28 (.slice A14 y12.f1.length c15) y12.f1 :: L) W := by
                  exact ⟨0, 0, ho12720, hF.sub ⟨rfl, rfl, rfl, rfl, rfl, rfl, trivial⟩, hO.selT (Ls := [Blk b17 [.int .i64 y12.f0, .slice A14 y12.f1.length c15] 36, Blk b5 [.int .i64 a0.f0, .slice A1 a0.f1.length c2] 36, Row k28 28 (.slice A14 y12.f1.length c15) y12.f1]) [0, 1, 2] 3 rfl rfl rfl⟩
                clear hF hO ho12720
                refine TC.loop (fun n12721 a W => ∃ (x12025 : Int) (x12026 : Int), swagelaw23_DeadLeaves.l1 a0 y12 x5807 n12721 x12025 x12026 = some o12720 ∧ Fr 157 a [(1, .pointer (some ⟨b5, 0, none⟩)), (3, .bool y6), (5, .pointer (some ⟨b17, 0, none⟩)), (6, .int .i64 x5807), (7, .int .i64 x12025), (8, .int .i64 x12026)] ∧ Own G (Blk b17 [.int .i64 y12.f0, .slice A14 y12.f1.length c15] 36 :: Blk b5 [.int .i64 a0.f0, .slice A1 a0.f1.length c2] 36 :: Row k28 28 (.slice A14 y12.f1.length c15) y12.f1 :: L) W) ?_ ?_ hS
                · rintro a W ⟨x12025, x12026, h, hF, hO⟩
                  exact none_no h
                · clear hS
                  rintro n12721 a W ⟨x12025, x12026, h, hF, hO⟩
                  rw [swagelaw23_DeadLeaves.l1] at h
                  refine TC.use ?_ hF hO
                  clear hF hO
                  refine TC.seq ?_
                  refine TC.seq ?_
                  refine TC.region ?_
                  refine TL.cons (TO.val rfl rfl rfl (Val.move rfl) ?_)
                  refine TL.cons (TO.val rfl rfl rfl (Val.fieldAddrB Try.underlying36 rfl sz34 rfl rfl rfl) ?_)
                  refine TL.cons (TO.val rfl rfl rfl (Val.loadB 1 agg34 rfl rfl rfl) ?_)
                  refine TL.cons (TO.val rfl rfl rfl (Val.move rfl) ?_)
                  obtain ⟨y13280, hx13281, h⟩ := bind_no h
                  obtain ⟨ad13282, cs13288, hA13283, hi13284, hj13285, hcl13286, hK13287⟩ := Rd.at hr3 hx13281
                  obtain ⟨A13289, c13290, rfl, hr13291, hl13292⟩ := k28_openR hK13287
                  refine TL.cons (TO.val rfl rfl rfl (Val.indexAddr Try.underlying34 sz28 rfl hA13283 rfl hi13284 hj13285) ?_)
                  refine TL.cons (TO.val rfl rfl rfl (Val.fieldAddrE Try.underlying28 rfl sz26 rfl rfl) ?_)
                  refine TL.cons (TO.val rfl rfl rfl (Val.loadS agg26 rfl (hcl13286 0 _ rfl)) ?_)
                  refine TL.cons (TO.val rfl rfl rfl (Val.len Try.underlying26 rfl) ?_)
                  refine TL.cons (TO.val rfl rfl rfl (Val.cmp rfl rfl run_lss) ?_)
                  refine TL.nil ?_
                  refine TQ.then_ ?_
                  refine TC.cond_p rfl h (fun hc13294 h => ?_) (fun hc13294 h => ?_)
                  · refine TC.skip ?_
                    refine TQ.then_ ?_
                    refine TC.seq ?_
                    obtain ⟨j13689, hj13689, h⟩ := jn_no h
                    refine TC.tail (fun a W => ∃ (x13688 : Int), j13689 x13688 = some o12720 ∧ Fr 157 a [(1, .pointer (some ⟨b5, 0, none⟩)), (3, .bool y6), (5, .pointer (some ⟨b17, 0, none⟩)), (6, .int .i64 x5807), (7, .int .i64 x13688), (8, .int .i64 x12026)] ∧ Own G (Blk b17 [.int .i64 y12.f0, .slice A14 y12.f1.length c15] 36 :: Blk b5 [.int .i64 a0.f0, .slice A1 a0.f1.length c2] 36 :: Row k28 28 (.slice A14 y12.f1.length c15) y12.f1 :: L) W) ?_ ?_
                    · rintro a W ⟨x13688, h, hF, hO⟩
                      rw [hj13689] at h
                      refine TQ.use ?_ hF hO
                      clear hF hO
                      refine TQ.then_ ?_
                      refine TC.region ?_
                      refine TL.cons (TO.val rfl rfl rfl (Val.move rfl) ?_)
                      refine TL.cons (TO.val rfl rfl rfl (Val.cmp rfl rfl run_add) ?_)
                      refine TL.cons (TO.val rfl rfl rfl (Val.assign rfl) ?_)
                      refine TL.nil ?_
                      exact fun a W hF hO => ⟨x13688, IntKind.i64.wrap (x12026 + 1), h, hF.sub ⟨rfl, rfl, rfl, rfl, rfl, rfl, trivial⟩, hO.selT (Ls := [Blk b17 [.int .i64 y12.f0, .slice A14 y12.f1.length c15] 36, Blk b5 [.int .i64 a0.f0, .slice A1 a0.f1.length c2] 36, Row k28 28 (.slice A14 y12.f1.length c15) y12.f1]) [0, 1, 2] 3 rfl rfl rfl⟩
                    · refine TC.block ?_
                      refine TC.seq ?_
                      refine TC.region ?_
                      refine TL.cons (TO.val rfl rfl rfl (Val.fieldAddrB Try.underlying36 rfl sz34 rfl rfl rfl) ?_)
                      refine TL.cons (TO.val rfl rfl rfl (Val.loadB 1 agg34 rfl rfl rfl) ?_)
                      refine TL.cons (TO.val rfl rfl rfl (Val.move rfl) ?_)
                      refine TL.cons (TO.val rfl rfl rfl (Val.indexAddr Try.underlying34 sz28 rfl hA13283 rfl hi13284 hj13285) ?_)
                      refine TL.cons (TO.val rfl rfl rfl (Val.fieldAddrE Try.underlying28 rfl sz26 rfl rfl) ?_)
                      refine TL.cons (TO.val rfl rfl rfl (Val.loadS agg26 rfl (hcl13286 0 _ rfl)) ?_)
                      refine TL.cons (TO.val rfl rfl rfl (Val.move rfl) ?_)
                      obtain ⟨y13690, hx13691, h⟩ := bind_no h
                      obtain ⟨ad13692, cs13698, hA13693, hi13694, hj13695, hcl13696, hK13697⟩ := Rd.at hr13291 hx13691
                      obtain ⟨A13699, c13700, rfl, hr13701, hl13702⟩ := k30_openR hK13697
                      refine TL.cons (TO.val rfl rfl rfl (Val.indexAddr Try.underlying26 sz30 rfl hA13693 rfl hi13694 hj13695) ?_)
                      refine TL.cons (TO.val rfl rfl rfl (Val.loadsS (cs := [.int .i64 y13690.f0, .int .i64 y13690.f1, .int .i64 y13690.f2, .int .i64 y13690.f3, .int .i64 y13690.f4, .slice A13699 y13690.f5.length c13700]) agg30 sz30 rfl rfl (Cl.sub (off := 0) (n := 6) hcl13696 rfl)) ?_)
                      refine TL.cons (TL.alloc (cs := [.int .i64 0, .int .i64 0, .int .i64 0, .int .i64 0, .int .i64 0, .slice none 0 0]) rfl rfl zr30 rfl (fun b13703 => ?_))
                      refine TL.cons (TL.store 0 (ds := [.int .i64 y13690.f0, .int .i64 y13690.f1, .int .i64 y13690.f2, .int .i64 y13690.f3, .int .i64 y13690.f4, .slice A13699 y13690.f5.length c13700]) (cs' := [.int .i64 y13690.f0, .int .i64 y13690.f1, .int .i64 y13690.f2, .int .i64 y13690.f3, .int .i64 y13690.f4, .slice A13699 y13690.f5.length c13700]) (L' := (Blk b13703 [.int .i64 y13690.f0, .int .i64 y13690.f1, .int .i64 y13690.f2, .int .i64 y13690.f3, .int .i64 y13690.f4, .slice A13699 y13690.f5.length c13700] 30 :: Blk b17 [.int .i64 y12.f0, .slice A14 y12.f1.length c15] 36 :: Blk b5 [.int .i64 a0.f0, .slice A1 a0.f1.length c2] 36 :: Row k28 28 (.slice A14 y12.f1.length c15) y12.f1 :: L)) rfl sz30 rfl rfl rfl rfl rfl (Nat.le_of_ble_eq_true rfl) rfl rfl ?_)
                      refine TL.nil ?_
                      refine TQ.then_ ?_
                      refine TC.seq ?_
                      refine TC.seq ?_
                      refine TC.region ?_
                      refine TL.cons (TO.val rfl rfl rfl (Val.fieldAddrB Try.underlying30 rfl sz3 rfl rfl rfl) ?_)
                      refine TL.cons (TO.val rfl rfl rfl (Val.loadB 0 agg3 rfl rfl rfl) ?_)
                      refine TL.cons (TO.val rfl rfl rfl (Val.cmp rfl rfl run_eql) ?_)
                      refine TL.nil ?_
                      refine TQ.then_ ?_
                      refine TC.cond_p rfl h (fun hc13705 h => ?_) (fun hc13705 h => ?_)
                      · refine TC.exit ?_
                        refine TQ.thenX ?_
                        refine TQ.inBX ?_
                        exact fun a W hF hO => ⟨x12025, h, hF.sub ⟨rfl, rfl, rfl, rfl, rfl, rfl, trivial⟩, hO.selT (Ls := [Blk b17 [.int .i64 y12.f0, .slice A14 y12.f1.length c15] 36, Blk b5 [.int .i64 a0.f0, .slice A1 a0.f1.length c2] 36, Row k28 28 (.slice A14 y12.f1.length c15) y12.f1]) [1, 2, 3] 4 rfl rfl rfl⟩
                      · refine TC.skip ?_
                        refine TQ.then_ ?_
                        refine TC.seq ?_
                        obtain ⟨o13931, ho13931, ko13931⟩ := bind_no h
                        clear h
                        refine TC.tail (fun a W => ∃ (x13930 : Int), x13930 = o13931 ∧ Fr 157 a [(1, .pointer (some ⟨b5, 0, none⟩)), (3, .bool y6), (5, .pointer (some ⟨b17, 0, none⟩)), (6, .int .i64 x5807), (7, .int .i64 x13930), (8, .int .i64 x12026), (9, .pointer (some ⟨b13703, 0, none⟩))] ∧ Own G (Blk b13703 [.int .i64 y13690.f0, .int .i64 y13690.f1, .int .i64 y13690.f2, .int .i64 y13690.f3, .int .i64 y13690.f4, .slice A13699 y13690.f5.length c13700] 30 :: Blk b17 [.int .i64 y12.f0, .slice A14 y12.f1.length c15] 36 :: Blk b5 [.int .i64 a0.f0, .slice A1 a0.f1.length c2] 36 :: Row k28 28 (.slice A14 y12.f1.length c15) y12.f1 :: L) W) ?_ ?_
                        · rintro a W ⟨x13930, rfl, hF, hO⟩
                          have h := ko13931
                          clear ko13931 ho13931
                          refine TQ.use ?_ hF hO
                          clear hF hO
                          refine TQ.then_ ?_
                          refine TC.seq ?_
                          refine TC.seq ?_
                          obtain ⟨j14043, hj14043, h⟩ := jn_no h
                          refine TC.tail (fun a W => ∃ (x14042 : Bool), j14043 x14042 = some o12720 ∧ Fr 157 a [(1, .pointer (some ⟨b5, 0, none⟩)), (3, .bool y6), (5, .pointer (some ⟨b17, 0, none⟩)), (6, .int .i64 x5807), (7, .int .i64 x13930), (8, .int .i64 x12026), (108, .bool x14042)] ∧ Own G (Blk b17 [.int .i64 y12.f0, .slice A14 y12.f1.length c15] 36 :: Blk b5 [.int .i64 a0.f0, .slice A1 a0.f1.length c2] 36 :: Row k28 28 (.slice A14 y12.f1.length c15) y12.f1 :: L) W) ?_ ?_
                          · rintro a W ⟨x14042, h, hF, hO⟩
                            rw [hj14043] at h
                            refine TQ.use ?_ hF hO
                            clear hF hO
                            refine TQ.then_ ?_
                            refine TC.cond_b rfl h (fun hc14045 h => ?_) (fun hc14045 h => ?_)
                            · refine TC.seq ?_
                              refine TC.region ?_
                              refine TL.cons (TO.val rfl rfl rfl (Val.assign rfl) ?_)
                              refine TL.nil ?_
                              refine TQ.then_ ?_
                              refine TC.ret ?_
                              refine TQ.thenR ?_
                              refine TQ.inBR ?_
                              refine TQ.thenR ?_
                              refine TQ.thenR ?_
                              refine TQ.thenR ?_
                              refine TQ.inBR ?_
                              refine TQ.thenR ?_
                              refine TQ.thenR ?_
                              refine TQ.inBR ?_
                              refine TQ.thenR ?_
                              refine TQ.thenR ?_
                              refine TQ.inBR ?_
                              refine TQ.thenR ?_
                              refine TQ.thenR ?_
                              obtain rfl := Option.some.inj h
                              have h := ko12720
                              obtain rfl := Option.some.inj h
                              have h := ko8687
                              obtain rfl := Option.some.inj h
                              exact TQ.done (Ls := []) (.inl rfl) [] 3 Try.results5 (.tmp rfl .nil) rfl (Gd.le.refl _) rfl rfl rfl ⟨rfl, rfl, rfl⟩
                            · refine TC.skip ?_
                              refine TQ.then_ ?_
                              refine TC.region ?_
                              refine TL.cons (TO.val rfl rfl rfl (Val.move rfl) ?_)
                              refine TL.cons (TO.val rfl rfl rfl (Val.cmp rfl rfl run_add) ?_)
                              refine TL.cons (TO.val rfl rfl rfl (Val.assign rfl) ?_)
                              refine TL.nil ?_
                              refine TQ.inB ?_
                              exact fun a W hF hO => ⟨IntKind.i64.wrap (x13930 + 1), h, hF.sub ⟨rfl, rfl, rfl, rfl, rfl, rfl, trivial⟩, hO.selT (Ls := [Blk b17 [.int .i64 y12.f0, .slice A14 y12.f1.length c15] 36, Blk b5 [.int .i64 a0.f0, .slice A1 a0.f1.length c2] 36, Row k28 28 (.slice A14 y12.f1.length c15) y12.f1]) [0, 1, 2] 3 rfl rfl rfl⟩
                          · refine TC.sel (Ls := [Row k28 28 (.slice A14 y12.f1.length c15) y12.f1, Blk b13703 [.int .i64 y13690.f0, .int .i64 y13690.f1, .int .i64 y13690.f2, .int .i64 y13690.f3, .int .i64 y13690.f4, .slice A13699 y13690.f5.length c13700] 30, Blk b17 [.int .i64 y12.f0, .slice A14 y12.f1.length c15] 36, Blk b5 [.int .i64 a0.f0, .slice A1 a0.f1.length c2] 36]) [3, 0, 1, 2] 4 rfl rfl rfl ?_
                            refine TC.share (fun G14083 e14084 hs14085 hb14086 => ?_)
                            have rd14087 : Rd G14083 k28 A14 y12.f1 := Rd.row hs14085
                            have le14088 : y12.f1.length ≤ c15 := Row.le hs14085
                            refine TC.regionAny [] mixed ?_
                            refine TA.take 0 rfl (by kernel_rfl) rfl (PQ.then_ (PQ.then_ (PQ.then_ (PQ.inB (PQ.then_ (PQ.then_ (PQ.then_ (PQ.inB (PQ.then_ (PQ.then_ (PQ.inB (PQ.then_ (PQ.then_ (PQ.inB (PQ.then_ (PQ.then_ PQ.body)))))))))))))))) rfl (Val.move rfl) (fun W hO => hO) ?_
                            refine TA.take 1 rfl (by kernel_rfl) rfl (PQ.then_ (PQ.then_ (PQ.then_ (PQ.inB (PQ.then_ (PQ.then_ (PQ.then_ (PQ.inB (PQ.then_ (PQ.then_ (PQ.inB (PQ.then_ (PQ.then_ (PQ.inB (PQ.then_ (PQ.then_ PQ.body)))))))))))))))) rfl (Val.fieldAddrB Try.underlying36 rfl sz34 rfl rfl rfl) (fun W hO => hO) ?_
                            refine TA.take 2 rfl (by kernel_rfl) rfl (PQ.then_ (PQ.then_ (PQ.then_ (PQ.inB (PQ.then_ (PQ.then_ (PQ.then_ (PQ.inB (PQ.then_ (PQ.then_ (PQ.inB (PQ.then_ (PQ.then_ (PQ.inB (PQ.then_ (PQ.then_ PQ.body)))))))))))))))) rfl (Val.loadB 1 agg34 rfl rfl rfl) (fun W hO => hO) ?_
                            refine TA.take 3 rfl (by kernel_rfl) rfl (PQ.then_ (PQ.then_ (PQ.then_ (PQ.inB (PQ.then_ (PQ.then_ (PQ.then_ (PQ.inB (PQ.then_ (PQ.then_ (PQ.inB (PQ.then_ (PQ.then_ (PQ.inB (PQ.then_ (PQ.then_ PQ.body)))))))))))))))) rfl (Val.move rfl) (fun W hO => hO) ?_
                            obtain ⟨y14089, hx14090, h⟩ := bind_no h
                            obtain ⟨ad14091, cs14097, hA14092, hi14093, hj14094, hcl14095, hK14096⟩ := Rd.at rd14087 hx14090
                            obtain ⟨A14098, c14099, rfl, hr14100, hl14101⟩ := k28_openR hK14096
                            refine TA.take 4 rfl (by kernel_rfl) rfl (PQ.then_ (PQ.then_ (PQ.then_ (PQ.inB (PQ.then_ (PQ.then_ (PQ.then_ (PQ.inB (PQ.then_ (PQ.then_ (PQ.inB (PQ.then_ (PQ.then_ (PQ.inB (PQ.then_ (PQ.then_ PQ.body)))))))))))))))) rfl (Val.indexAddr Try.underlying34 sz28 rfl hA14092 rfl hi14093 hj14094) (fun W hO => hO) ?_
                            refine TA.take 5 rfl (by kernel_rfl) rfl (PQ.then_ (PQ.then_ (PQ.then_ (PQ.inB (PQ.then_ (PQ.then_ (PQ.then_ (PQ.inB (PQ.then_ (PQ.then_ (PQ.inB (PQ.then_ (PQ.then_ (PQ.inB (PQ.then_ (PQ.then_ PQ.body)))))))))))))))) rfl (Val.fieldAddrE Try.underlying28 rfl sz26 rfl rfl) (fun W hO => hO) ?_
                            refine TA.take 6 rfl (by kernel_rfl) rfl (PQ.then_ (PQ.then_ (PQ.then_ (PQ.inB (PQ.then_ (PQ.then_ (PQ.then_ (PQ.inB (PQ.then_ (PQ.then_ (PQ.inB (PQ.then_ (PQ.then_ (PQ.inB (PQ.then_ (PQ.then_ PQ.body)))))))))))))))) rfl (Val.loadS agg26 rfl (hcl14095 0 _ rfl)) (fun W hO => hO) ?_
                            refine TA.take 7 rfl (by kernel_rfl) rfl (PQ.then_ (PQ.then_ (PQ.then_ (PQ.inB (PQ.then_ (PQ.then_ (PQ.then_ (PQ.inB (PQ.then_ (PQ.then_ (PQ.inB (PQ.then_ (PQ.then_ (PQ.inB (PQ.then_ (PQ.then_ PQ.body)))))))))))))))) rfl (Val.len Try.underlying26 rfl) (fun W hO => hO) ?_
                            refine TA.take 8 rfl (by kernel_rfl) rfl (PQ.then_ (PQ.then_ (PQ.then_ (PQ.inB (PQ.then_ (PQ.then_ (PQ.then_ (PQ.inB (PQ.then_ (PQ.then_ (PQ.inB (PQ.then_ (PQ.then_ (PQ.inB (PQ.then_ (PQ.then_ PQ.body)))))))))))))))) rfl (Val.cmp rfl rfl run_geq) (fun W hO => hO) ?_
                            refine TA.take 9 rfl (by kernel_rfl) rfl (PQ.then_ (PQ.then_ (PQ.then_ (PQ.inB (PQ.then_ (PQ.then_ (PQ.then_ (PQ.inB (PQ.then_ (PQ.then_ (PQ.inB (PQ.then_ (PQ.then_ (PQ.inB (PQ.then_ (PQ.then_ PQ.body)))))))))))))))) rfl (Val.move rfl) (fun W hO => hO) ?_
                            refine TK.split (p := (y14089.f0.length : Int) ≤ x13930) h (fun hg14102 h => ?_) (fun hg14102 h => ?_)
                            · have hk14103 : decide ((y14089.f0.length : Int) ≤ x13930) = true := decide_eq_true hg14102
                              refine TA.not 10 rfl (by kernel_rfl) rfl (PQ.then_ (PQ.then_ (PQ.then_ (PQ.inB (PQ.then_ (PQ.then_ (PQ.then_ (PQ.inB (PQ.then_ (PQ.then_ (PQ.inB (PQ.then_ (PQ.then_ (PQ.inB (PQ.then_ (PQ.then_ PQ.body)))))))))))))))) (Wt.no rfl rfl rfl hk14103) (fun W hO => hO) ?_
                              refine TA.not 11 rfl (by kernel_rfl) rfl (PQ.then_ (PQ.then_ (PQ.then_ (PQ.inB (PQ.then_ (PQ.then_ (PQ.then_ (PQ.inB (PQ.then_ (PQ.then_ (PQ.inB (PQ.then_ (PQ.then_ (PQ.inB (PQ.then_ (PQ.then_ PQ.body)))))))))))))))) (Wt.no rfl rfl rfl hk14103) (fun W hO => hO) ?_
                              refine TA.not 12 rfl (by kernel_rfl) rfl (PQ.then_ (PQ.then_ (PQ.then_ (PQ.inB (PQ.then_ (PQ.then_ (PQ.then_ (PQ.inB (PQ.then_ (PQ.then_ (PQ.inB (PQ.then_ (PQ.then_ (PQ.inB (PQ.then_ (PQ.then_ PQ.body)))))))))))))))) (Wt.no rfl rfl rfl hk14103) (fun W hO => hO) ?_
                              refine TA.not 13 rfl (by kernel_rfl) rfl (PQ.then_ (PQ.then_ (PQ.then_ (PQ.inB (PQ.then_ (PQ.then_ (PQ.then_ (PQ.inB (PQ.then_ (PQ.then_ (PQ.inB (PQ.then_ (PQ.then_ (PQ.inB (PQ.then_ (PQ.then_ PQ.body)))))))))))))))) (Wt.no rfl rfl rfl hk14103) (fun W hO => hO) ?_
                              refine TA.not 14 rfl (by kernel_rfl) rfl (PQ.then_ (PQ.then_ (PQ.then_ (PQ.inB (PQ.then_ (PQ.then_ (PQ.then_ (PQ.inB (PQ.then_ (PQ.then_ (PQ.inB (PQ.then_ (PQ.then_ (PQ.inB (PQ.then_ (PQ.then_ PQ.body)))))))))))))))) (Wt.no rfl rfl rfl hk14103) (fun W hO => hO) ?_
                              refine TA.not 15 rfl (by kernel_rfl) rfl (PQ.then_ (PQ.then_ (PQ.then_ (PQ.inB (PQ.then_ (PQ.then_ (PQ.then_ (PQ.inB (PQ.then_ (PQ.then_ (PQ.inB (PQ.then_ (PQ.then_ (PQ.inB (PQ.then_ (PQ.then_ PQ.body)))))))))))))))) (Wt.no rfl rfl rfl hk14103) (fun W hO => hO) ?_
                              refine TA.not 16 rfl (by kernel_rfl) rfl (PQ.then_ (PQ.then_ (PQ.then_ (PQ.inB (PQ.then_ (PQ.then_ (PQ.then_ (PQ.inB (PQ.then_ (PQ.then_ (PQ.inB (PQ.then_ (PQ.then_ (PQ.inB (PQ.then_ (PQ.then_ PQ.body)))))))))))))))) (Wt.no rfl rfl rfl hk14103) (fun W hO => hO) ?_
                              refine TA.not 17 rfl (by kernel_rfl) rfl (PQ.then_ (PQ.then_ (PQ.then_ (PQ.inB (PQ.then_ (PQ.then_ (PQ.then_ (PQ.inB (PQ.then_ (PQ.then_ (PQ.inB (PQ.then_ (PQ.then_ (PQ.inB (PQ.then_ (PQ.then_ PQ.body)))))))))))))))) (Wt.no rfl rfl rfl hk14103) (fun W hO => hO) ?_
                              refine TA.not 18 rfl (by kernel_rfl) rfl (PQ.then_ (PQ.then_ (PQ.then_ (PQ.inB (PQ.then_ (PQ.then_ (PQ.then_ (PQ.inB (PQ.then_ (PQ.then_ (PQ.inB (PQ.then_ (PQ.then_ (PQ.inB (PQ.then_ (PQ.then_ PQ.body)))))))))))))))) (Wt.no rfl rfl rfl hk14103) (fun W hO => hO) ?_
                              refine TA.not 19 rfl (by kernel_rfl) rfl (PQ.then_ (PQ.then_ (PQ.then_ (PQ.inB (PQ.then_ (PQ.then_ (PQ.then_ (PQ.inB (PQ.then_ (PQ.then_ (PQ.inB (PQ.then_ (PQ.then_ (PQ.inB (PQ.then_ (PQ.then_ PQ.body)))))))))))))))) (Wt.no rfl rfl rfl hk14103) (fun W hO => hO) ?_
                              refine TA.not 20 rfl (by kernel_rfl) rfl (PQ.then_ (PQ.then_ (PQ.then_ (PQ.inB (PQ.then_ (PQ.then_ (PQ.then_ (PQ.inB (PQ.then_ (PQ.then_ (PQ.inB (PQ.then_ (PQ.then_ (PQ.inB (PQ.then_ (PQ.then_ PQ.body)))))))))))))))) (Wt.no rfl rfl rfl hk14103) (fun W hO => hO) ?_
                              refine TA.not 21 rfl (by kernel_rfl) rfl (PQ.then_ (PQ.then_ (PQ.then_ (PQ.inB (PQ.then_ (PQ.then_ (PQ.then_ (PQ.inB (PQ.then_ (PQ.then_ (PQ.inB (PQ.then_ (PQ.then_ (PQ.inB (PQ.then_ (PQ.then_ PQ.body)))))))))))))))) (Wt.no rfl rfl rfl hk14103) (fun W hO => hO) ?_
                              refine TA.take 22 rfl (by kernel_rfl) rfl (PQ.then_ (PQ.then_ (PQ.then_ (PQ.inB (PQ.then_ (PQ.then_ (PQ.then_ (PQ.inB (PQ.then_ (PQ.then_ (PQ.inB (PQ.then_ (PQ.then_ (PQ.inB (PQ.then_ (PQ.then_ PQ.body)))))))))))))))) rfl (Val.pickY rfl hk14103 rfl) (fun W hO => hO) ?_
                              refine TA.done (by kernel_rfl) ?_
                              refine TQ.back hb14086 ?_
                              exact fun a W hF hO => ⟨true, h, hF.sub ⟨rfl, rfl, rfl, rfl, rfl, rfl, rfl, trivial⟩, hO.selT (Ls := [Blk b17 [.int .i64 y12.f0, .slice A14 y12.f1.length c15] 36, Blk b5 [.int .i64 a0.f0, .slice A1 a0.f1.length c2] 36, Row k28 28 (.slice A14 y12.f1.length c15) y12.f1]) [2, 3, 0] 4 rfl rfl rfl⟩
                            · have hk14104 : decide ((y14089.f0.length : Int) ≤ x13930) = false := decide_eq_false hg14102
                              refine TA.take 10 rfl (by kernel_rfl) rfl (PQ.then_ (PQ.then_ (PQ.then_ (PQ.inB (PQ.then_ (PQ.then_ (PQ.then_ (PQ.inB (PQ.then_ (PQ.then_ (PQ.inB (PQ.then_ (PQ.then_ (PQ.inB (PQ.then_ (PQ.then_ PQ.body)))))))))))))))) (Wt.yes rfl rfl rfl hk14104) (Val.loadsB 0 (cs := [.int .i64 y13690.f0, .int .i64 y13690.f1, .int .i64 y13690.f2, .int .i64 y13690.f3, .int .i64 y13690.f4, .slice A13699 y13690.f5.length c13700]) agg30 sz30 rfl rfl rfl rfl) (fun W hO => hO) ?_
                              refine TA.take 11 rfl (by kernel_rfl) rfl (PQ.then_ (PQ.then_ (PQ.then_ (PQ.inB (PQ.then_ (PQ.then_ (PQ.then_ (PQ.inB (PQ.then_ (PQ.then_ (PQ.inB (PQ.then_ (PQ.then_ (PQ.inB (PQ.then_ (PQ.then_ PQ.body)))))))))))))))) (Wt.yes rfl rfl rfl hk14104) (Val.fieldAddrB Try.underlying36 rfl sz34 rfl rfl rfl) (fun W hO => hO) ?_
                              refine TA.take 12 rfl (by kernel_rfl) rfl (PQ.then_ (PQ.then_ (PQ.then_ (PQ.inB (PQ.then_ (PQ.then_ (PQ.then_ (PQ.inB (PQ.then_ (PQ.then_ (PQ.inB (PQ.then_ (PQ.then_ (PQ.inB (PQ.then_ (PQ.then_ PQ.body)))))))))))))))) (Wt.yes rfl rfl rfl hk14104) (Val.loadB 1 agg34 rfl rfl rfl) (fun W hO => hO) ?_
                              refine TA.take 13 rfl (by kernel_rfl) rfl (PQ.then_ (PQ.then_ (PQ.then_ (PQ.inB (PQ.then_ (PQ.then_ (PQ.then_ (PQ.inB (PQ.then_ (PQ.then_ (PQ.inB (PQ.then_ (PQ.then_ (PQ.inB (PQ.then_ (PQ.then_ PQ.body)))))))))))))))) (Wt.yes rfl rfl rfl hk14104) (Val.move rfl) (fun W hO => hO) ?_
                              refine TA.take 14 rfl (by kernel_rfl) rfl (PQ.then_ (PQ.then_ (PQ.then_ (PQ.inB (PQ.then_ (PQ.then_ (PQ.then_ (PQ.inB (PQ.then_ (PQ.then_ (PQ.inB (PQ.then_ (PQ.then_ (PQ.inB (PQ.then_ (PQ.then_ PQ.body)))))))))))))))) (Wt.yes rfl rfl rfl hk14104) (Val.indexAddr Try.underlying34 sz28 rfl hA14092 rfl hi14093 hj14094) (fun W hO => hO) ?_
                              refine TA.take 15 rfl (by kernel_rfl) rfl (PQ.then_ (PQ.then_ (PQ.then_ (PQ.inB (PQ.then_ (PQ.then_ (PQ.then_ (PQ.inB (PQ.then_ (PQ.then_ (PQ.inB (PQ.then_ (PQ.then_ (PQ.inB (PQ.then_ (PQ.then_ PQ.body)))))))))))))))) (Wt.yes rfl rfl rfl hk14104) (Val.fieldAddrE Try.underlying28 rfl sz26 rfl rfl) (fun W hO => hO) ?_
                              refine TA.take 16 rfl (by kernel_rfl) rfl (PQ.then_ (PQ.then_ (PQ.then_ (PQ.inB (PQ.then_ (PQ.then_ (PQ.then_ (PQ.inB (PQ.then_ (PQ.then_ (PQ.inB (PQ.then_ (PQ.then_ (PQ.inB (PQ.then_ (PQ.then_ PQ.body)))))))))))))))) (Wt.yes rfl rfl rfl hk14104) (Val.loadS agg26 rfl (hcl14095 0 _ rfl)) (fun W hO => hO) ?_
                              refine TA.take 17 rfl (by kernel_rfl) rfl (PQ.then_ (PQ.then_ (PQ.then_ (PQ.inB (PQ.then_ (PQ.then_ (PQ.then_ (PQ.inB (PQ.then_ (PQ.then_ (PQ.inB (PQ.then_ (PQ.then_ (PQ.inB (PQ.then_ (PQ.then_ PQ.body)))))))))))))))) (Wt.yes rfl rfl rfl hk14104) (Val.move rfl) (fun W hO => hO) ?_
                              obtain ⟨y14105, hx14106, h⟩ := bind_no h
                              obtain ⟨ad14107, cs14113, hA14108, hi14109, hj14110, hcl14111, hK14112⟩ := Rd.at hr14100 hx14106
                              obtain ⟨A14114, c14115, rfl, hr14116, hl14117⟩ := k30_openR hK14112
                              refine TA.take 18 rfl (by kernel_rfl) rfl (PQ.then_ (PQ.then_ (PQ.then_ (PQ.inB (PQ.then_ (PQ.then_ (PQ.then_ (PQ.inB (PQ.then_ (PQ.then_ (PQ.inB (PQ.then_ (PQ.then_ (PQ.inB (PQ.then_ (PQ.then_ PQ.body)))))))))))))))) (Wt.yes rfl rfl rfl hk14104) (Val.indexAddr Try.underlying26 sz30 rfl hA14108 rfl hi14109 hj14110) (fun W hO => hO) ?_
                              refine TA.take 19 rfl (by kernel_rfl) rfl (PQ.then_ (PQ.then_ (PQ.then_ (PQ.inB (PQ.then_ (PQ.then_ (PQ.then_ (PQ.inB (PQ.then_ (PQ.then_ (PQ.inB (PQ.then_ (PQ.then_ (PQ.inB (PQ.then_ (PQ.then_ PQ.body)))))))))))))))) (Wt.yes rfl rfl rfl hk14104) (Val.loadsS (cs := [.int .i64 y14105.f0, .int .i64 y14105.f1, .int .i64 y14105.f2, .int .i64 y14105.f3, .int .i64 y14105.f4, .slice A14114 y14105.f5.length c14115]) agg30 sz30 rfl rfl (Cl.sub (off := 0) (n := 6) hcl14111 rfl)) (fun W hO => hO) ?_
                              obtain ⟨y14118, hy14119, h⟩ := bind_no h
                              refine TA.eff 20 rfl (by kernel_rfl) rfl (TL.callV (Lin := []) (args := [.agg #[.int .i64 y13690.f0, .int .i64 y13690.f1, .int .i64 y13690.f2, .int .i64 y13690.f3, .int .i64 y13690.f4, .slice A13699 y13690.f5.length c13700], .agg #[.int .i64 y14105.f0, .int .i64 y14105.f1, .int .i64 y14105.f2, .int .i64 y14105.f3, .int .i64 y14105.f4, .slice A14114 y14105.f5.length c14115]]) (Wt.yes rfl rfl rfl hk14104) rfl rfl hb21 rfl rfl (swageref14_SameOp.calls (a0 := y13690) (a1 := y14105) (hr13701.up e14084) hl13702 hr14116 hl14117 hy14119) rfl ?_)
                              rintro _ _ _ _ ⟨rfl, rfl, rfl⟩
                              refine TA.next (fun W hO => hO) ?_
                              refine TA.take 21 rfl (by kernel_rfl) rfl (PQ.then_ (PQ.then_ (PQ.then_ (PQ.inB (PQ.then_ (PQ.then_ (PQ.then_ (PQ.inB (PQ.then_ (PQ.then_ (PQ.inB (PQ.then_ (PQ.then_ (PQ.inB (PQ.then_ (PQ.then_ PQ.body)))))))))))))))) (Wt.yes rfl rfl rfl hk14104) (Val.not_ rfl) (fun W hO => hO) ?_
                              refine TA.take 22 rfl (by kernel_rfl) rfl (PQ.then_ (PQ.then_ (PQ.then_ (PQ.inB (PQ.then_ (PQ.then_ (PQ.then_ (PQ.inB (PQ.then_ (PQ.then_ (PQ.inB (PQ.then_ (PQ.then_ (PQ.inB (PQ.then_ (PQ.then_ PQ.body)))))))))))))))) rfl (Val.pickN rfl hk14104 rfl) (fun W hO => hO) ?_
                              refine TA.done (by kernel_rfl) ?_
                              refine TQ.back hb14086 ?_
                              exact fun a W hF hO => ⟨(!y14118), h, hF.sub ⟨rfl, rfl, rfl, rfl, rfl, rfl, rfl, trivial⟩, hO.selT (Ls := [Blk b17 [.int .i64 y12.f0, .slice A14 y12.f1.length c15] 36, Blk b5 [.int .i64 a0.f0, .slice A1 a0.f1.length c2] 36, Row k28 28 (.slice A14 y12.f1.length c15) y12.f1]) [2, 3, 0] 4 rfl rfl rfl⟩
                        · refine TC.block ?_
                          intro a W hF hO
                          have hS : ∃ (x13855 : Int), swagelaw23_DeadLeaves.l3 y12 x5807 ((at? y12.f1 x5807).elim 0 (fun vy13939 => vy13939.f0.length) + 1) x13855 = some o13931 ∧ Fr 157 a [(1, .pointer (some ⟨b5, 0, none⟩)), (3, .bool y6), (5, .pointer (some ⟨b17, 0, none⟩)), (6, .int .i64 x5807), (7, .int .i64 x13855), (8, .int .i64 x12026), (9, .pointer (some ⟨b13703, 0, none⟩))] ∧ Own G (Blk b13703 [.int .i64 y13690.f0, .int .i64 y13690.f1, .int .i64 y13690.f2, .int .i64 y13690.f3, .int .i64 y13690.f4, .slice A13699 y13690.f5.length c13700] 30 :: Blk b17 [.int .i64 y12.f0, .slice A14 y12.f1.length c15] 36 :: Blk b5 [.int .i64 a0.f0, .slice A1 a0.f1.length c2] 36 :: Row k28 28 (.slice A14 y12.f1.length c15) y12.f1 :: L) W := by
                            exact ⟨x12025, ho13931, hF.sub ⟨rfl, rfl, rfl, rfl, rfl, rfl, rfl, trivial⟩, hO.selT (Ls := [Blk b13703 [.int .i64 y13690.f0, .int .i64 y13690.f1, .int .i64 y13690.f2, .int .i64 y13690.f3, .int .i64 y13690.f4, .slice A13699 y13690.f5.length c13700] 30, Blk b17 [.int .i64 y12.f0, .slice A14 y12.f1.length c15] 36, Blk b5 [.int .i64 a0.f0, .slice A1 a0.f1.length c2] 36, Row k28 28 (.slice A14 y12.f1.length c15) y12.f1]) [0, 1, 2, 3] 4 rfl rfl rfl⟩
                          clear hF hO ho13931 ko13931
                          refine TC.loop (fun n13932 a W => ∃ (x13855 : Int), swagelaw23_DeadLeaves.l3 y12 x5807 n13932 x13855 = some o13931 ∧ Fr 157 a [(1, .pointer (some ⟨b5, 0, none⟩)), (3, .bool y6), (5, .pointer (some ⟨b17, 0, none⟩)), (6, .int .i64 x5807), (7, .int .i64 x13855), (8, .int .i64 x12026), (9, .pointer (some ⟨b13703, 0, none⟩))] ∧ Own G (Blk b13703 [.int .i64 y13690.f0, .int .i64 y13690.f1, .int .i64 y13690.f2, .int .i64 y13690.f3, .int .i64 y13690.f4, .slice A13699 y13690.f5.length c13700] 30 :: Blk b17 [.int .i64 y12.f0, .slice A14 y12.f1.length c15] 36 :: Blk b5 [.int .i64 a0.f0, .slice A1 a0.f1.length c2] 36 :: Row k28 28 (.slice A14 y12.f1.length c15) y12.f1 :: L) W) ?_ ?_ hS
                          · rintro a W ⟨x13855, h, hF, hO⟩
                            exact none_no h
                          · clear hS
                            rintro n13932 a W ⟨x13855, h, hF, hO⟩
                            rw [swagelaw23_DeadLeaves.l3] at h
                            refine TC.use ?_ hF hO
                            clear hF hO
                            refine TC.seq ?_
                            refine TC.seq ?_
                            obtain ⟨j14156, hj14156, h⟩ := jn_no h
                            refine TC.tail (fun a W => ∃ (x14155 : Bool), j14156 x14155 = some o13931 ∧ Fr 157 a [(1, .pointer (some ⟨b5, 0, none⟩)), (3, .bool y6), (5, .pointer (some ⟨b17, 0, none⟩)), (6, .int .i64 x5807), (7, .int .i64 x13855), (8, .int .i64 x12026), (9, .pointer (some ⟨b13703, 0, none⟩)), (83, .bool x14155)] ∧ Own G (Blk b13703 [.int .i64 y13690.f0, .int .i64 y13690.f1, .int .i64 y13690.f2, .int .i64 y13690.f3, .int .i64 y13690.f4, .slice A13699 y13690.f5.length c13700] 30 :: Blk b17 [.int .i64 y12.f0, .slice A14 y12.f1.length c15] 36 :: Blk b5 [.int .i64 a0.f0, .slice A1 a0.f1.length c2] 36 :: Row k28 28 (.slice A14 y12.f1.length c15) y12.f1 :: L) W) ?_ ?_
                            · rintro a W ⟨x14155, h, hF, hO⟩
                              rw [hj14156] at h
                              refine TQ.use ?_ hF hO
                              clear hF hO
                              refine TQ.then_ ?_
                              refine TC.cond_b rfl h (fun hc14158 h => ?_) (fun hc14158 h => ?_)
                              · refine TC.skip ?_
                                refine TQ.then_ ?_
                                refine TC.block ?_
                                refine TC.region ?_
                                refine TL.cons (TO.val rfl rfl rfl (Val.move rfl) ?_)
                                refine TL.cons (TO.val rfl rfl rfl (Val.cmp rfl rfl run_add) ?_)
                                refine TL.cons (TO.val rfl rfl rfl (Val.assign rfl) ?_)
                                refine TL.nil ?_
                                refine TQ.inB ?_
                                exact fun a W hF hO => ⟨IntKind.i64.wrap (x13855 + 1), h, hF.sub ⟨rfl, rfl, rfl, rfl, rfl, rfl, rfl, trivial⟩, hO.selT (Ls := [Blk b13703 [.int .i64 y13690.f0, .int .i64 y13690.f1, .int .i64 y13690.f2, .int .i64 y13690.f3, .int .i64 y13690.f4, .slice A13699 y13690.f5.length c13700] 30, Blk b17 [.int .i64 y12.f0, .slice A14 y12.f1.length c15] 36, Blk b5 [.int .i64 a0.f0, .slice A1 a0.f1.length c2] 36, Row k28 28 (.slice A14 y12.f1.length c15) y12.f1]) [0, 1, 2, 3] 4 rfl rfl rfl⟩
                              · refine TC.exit ?_
                                refine TQ.thenX ?_
                                refine TQ.thenX ?_
                                refine TQ.inBX ?_
                                exact fun a W hF hO => ⟨x13855, Option.some.inj h, hF.sub ⟨rfl, rfl, rfl, rfl, rfl, rfl, rfl, trivial⟩, hO.selT (Ls := [Blk b13703 [.int .i64 y13690.f0, .int .i64 y13690.f1, .int .i64 y13690.f2, .int .i64 y13690.f3, .int .i64 y13690.f4, .slice A13699 y13690.f5.length c13700] 30, Blk b17 [.int .i64 y12.f0, .slice A14 y12.f1.length c15] 36, Blk b5 [.int .i64 a0.f0, .slice A1 a0.f1.length c2] 36, Row k28 28 (.slice A14 y12.f1.length c15) y12.f1]) [0, 1, 2, 3] 4 rfl rfl rfl⟩
                            · refine TC.region ?_
                              refine TL.cons (TO.val rfl rfl rfl (Val.move rfl) ?_)
                              refine TL.cons (TO.val rfl rfl rfl (Val.fieldAddrB Try.underlying36 rfl sz34 rfl rfl rfl) ?_)
                              refine TL.cons (TO.val rfl rfl rfl (Val.loadB 1 agg34 rfl rfl rfl) ?_)
                              refine TL.cons (TO.val rfl rfl rfl (Val.move rfl) ?_)
                              refine TK.sel (Ls := [Row k28 28 (.slice A14 y12.f1.length c15) y12.f1, Blk b13703 [.int .i64 y13690.f0, .int .i64 y13690.f1, .int .i64 y13690.f2, .int .i64 y13690.f3, .int .i64 y13690.f4, .slice A13699 y13690.f5.length c13700] 30, Blk b17 [.int .i64 y12.f0, .slice A14 y12.f1.length c15] 36, Blk b5 [.int .i64 a0.f0, .slice A1 a0.f1.length c2] 36]) [3, 0, 1, 2] 4 rfl rfl rfl ?_
                              refine TK.share (fun G14159 e14160 hs14161 hb14162 => ?_)
                              have rd14163 : Rd G14159 k28 A14 y12.f1 := Rd.row hs14161
                              have le14164 : y12.f1.length ≤ c15 := Row.le hs14161
                              obtain ⟨y14165, hx14166, h⟩ := bind_no h
                              obtain ⟨ad14167, cs14173, hA14168, hi14169, hj14170, hcl14171, hK14172⟩ := Rd.at rd14163 hx14166
                              obtain ⟨A14174, c14175, rfl, hr14176, hl14177⟩ := k28_openR hK14172
                              refine TL.cons (TO.val rfl rfl rfl (Val.indexAddr Try.underlying34 sz28 rfl hA14168 rfl hi14169 hj14170) ?_)
                              refine TL.cons (TO.val rfl rfl rfl (Val.fieldAddrE Try.underlying28 rfl sz26 rfl rfl) ?_)
                              refine TL.cons (TO.val rfl rfl rfl (Val.loadS agg26 rfl (hcl14171 0 _ rfl)) ?_)
                              refine TL.cons (TO.val rfl rfl rfl (Val.len Try.underlying26 rfl) ?_)
                              refine TL.cons (TO.val rfl rfl rfl (Val.cmp rfl rfl run_lss) ?_)
                              refine TL.cons (TO.val rfl rfl rfl (Val.move rfl) ?_)
                              refine TK.split (p := x13855 < (y14165.f0.length : Int)) h (fun hg14178 h => ?_) (fun hg14178 h => ?_)
                              · have hk14179 : decide (x13855 < (y14165.f0.length : Int)) = true := decide_eq_true hg14178
                                refine TL.cons (TO.val (Wt.yes rfl rfl rfl hk14179) rfl rfl (Val.fieldAddrB Try.underlying36 rfl sz34 rfl rfl rfl) ?_)
                                refine TL.cons (TO.val (Wt.yes rfl rfl rfl hk14179) rfl rfl (Val.loadB 1 agg34 rfl rfl rfl) ?_)
                                refine TL.cons (TO.val (Wt.yes rfl rfl rfl hk14179) rfl rfl (Val.move rfl) ?_)
                                refine TL.cons (TO.val (Wt.yes rfl rfl rfl hk14179) rfl rfl (Val.indexAddr Try.underlying34 sz28 rfl hA14168 rfl hi14169 hj14170) ?_)
                                refine TL.cons (TO.val (Wt.yes rfl rfl rfl hk14179) rfl rfl (Val.fieldAddrE Try.underlying28 rfl sz26 rfl rfl) ?_)
                                refine TL.cons (TO.val (Wt.yes rfl rfl rfl hk14179) rfl rfl (Val.loadS agg26 rfl (hcl14171 0 _ rfl)) ?_)
                                refine TL.cons (TO.val (Wt.yes rfl rfl rfl hk14179) rfl rfl (Val.move rfl) ?_)
                                obtain ⟨y14180, hx14181, h⟩ := bind_no h
                                obtain ⟨ad14182, cs14188, hA14183, hi14184, hj14185, hcl14186, hK14187⟩ := Rd.at hr14176 hx14181
                                obtain ⟨A14189, c14190, rfl, hr14191, hl14192⟩ := k30_openR hK14187
                                refine TL.cons (TO.val (Wt.yes rfl rfl rfl hk14179) rfl rfl (Val.indexAddr Try.underlying26 sz30 rfl hA14183 rfl hi14184 hj14185) ?_)
                                refine TL.cons (TO.val (Wt.yes rfl rfl rfl hk14179) rfl rfl (Val.fieldAddrE Try.underlying30 rfl sz3 rfl rfl) ?_)
                                refine TL.cons (TO.val (Wt.yes rfl rfl rfl hk14179) rfl rfl (Val.loadS agg3 rfl (hcl14186 0 _ rfl)) ?_)
                                refine TL.cons (TO.val (Wt.yes rfl rfl rfl hk14179) rfl rfl (Val.cmp rfl rfl run_eql) ?_)
                                refine TL.cons (TO.val rfl rfl rfl (Val.pickY rfl hk14179 rfl) ?_)
                                refine TL.nil ?_
                                refine TQ.back hb14162 ?_
                                exact fun a W hF hO => ⟨decide (y14180.f0 = 5), h, hF.sub ⟨rfl, rfl, rfl, rfl, rfl, rfl, rfl, rfl, trivial⟩, hO.selT (Ls := [Blk b13703 [.int .i64 y13690.f0, .int .i64 y13690.f1, .int .i64 y13690.f2, .int .i64 y13690.f3, .int .i64 y13690.f4, .slice A13699 y13690.f5.length c13700] 30, Blk b17 [.int .i64 y12.f0, .slice A14 y12.f1.length c15] 36, Blk b5 [.int .i64 a0.f0, .slice A1 a0.f1.length c2] 36, Row k28 28 (.slice A14 y12.f1.length c15) y12.f1]) [1, 2, 3, 0] 4 rfl rfl rfl⟩
                              · have hk14193 : decide (x13855 < (y14165.f0.length : Int)) = false := decide_eq_false hg14178
                                refine TL.cons (TL.not (Wt.no rfl rfl rfl hk14193) rfl ?_)
                                refine TL.cons (TL.not (Wt.no rfl rfl rfl hk14193) rfl ?_)
                                refine TL.cons (TL.not (Wt.no rfl rfl rfl hk14193) rfl ?_)
                                refine TL.cons (TL.not (Wt.no rfl rfl rfl hk14193) rfl ?_)
                                refine TL.cons (TL.not (Wt.no rfl rfl rfl hk14193) rfl ?_)
                                refine TL.cons (TL.not (Wt.no rfl rfl rfl hk14193) rfl ?_)
                                refine TL.cons (TL.not (Wt.no rfl rfl rfl hk14193) rfl ?_)
                                refine TL.cons (TL.not (Wt.no rfl rfl rfl hk14193) rfl ?_)
                                refine TL.cons (TL.not (Wt.no rfl rfl rfl hk14193) rfl ?_)
                                refine TL.cons (TL.not (Wt.no rfl rfl rfl hk14193) rfl ?_)
                                refine TL.cons (TL.not (Wt.no rfl rfl rfl hk14193) rfl ?_)
                                refine TL.cons (TO.val rfl rfl rfl (Val.pickN rfl hk14193 rfl) ?_)
                                refine TL.nil ?_
                                refine TQ.back hb14162 ?_
                                exact fun a W hF hO => ⟨false, h, hF.sub ⟨rfl, rfl, rfl, rfl, rfl, rfl, rfl, rfl, trivial⟩, hO.selT (Ls := [Blk b13703 [.int .i64 y13690.f0, .int .i64 y13690.f1, .int .i64 y13690.f2, .int .i64 y13690.f3, .int .i64 y13690.f4, .slice A13699 y13690.f5.length c13700] 30, Blk b17 [.int .i64 y12.f0, .slice A14 y12.f1.length c15] 36, Blk b5 [.int .i64 a0.f0, .slice A1 a0.f1.length c2] 36, Row k28 28 (.slice A14 y12.f1.length c15) y12.f1]) [1, 2, 3, 0] 4 rfl rfl rfl⟩
                  · refine TC.exit ?_
                    refine TQ.thenX ?_
                    refine TQ.thenX ?_
                    refine TQ.inBX ?_
                    exact fun a W hF hO => ⟨x12025, Option.some.inj h, hF.sub ⟨rfl, rfl, rfl, rfl, rfl, trivial⟩, hO.selT (Ls := [Blk b17 [.int .i64 y12.f0, .slice A14 y12.f1.length c15] 36, Blk b5 [.int .i64 a0.f0, .slice A1 a0.f1.length c2] 36, Row k28 28 (.slice A14 y12.f1.length c15) y12.f1]) [0, 1, 2] 3 rfl rfl rfl⟩
            · refine TC.exit ?_
              refine TQ.thenX ?_
              refine TQ.thenX ?_
              refine TQ.inBX ?_
              exact fun a W hF hO => ⟨Option.some.inj h, hF.sub ⟨rfl, trivial⟩, hO.selT (Ls := []) [] 3 rfl rfl rfl⟩
    · refine TC.sel (Ls := [Row k28 28 (.slice A14 y12.f1.length c15) y12.f1, Blk b17 [.int .i64 y12.f0, .slice A14 y12.f1.length c15] 36, Blk b5 [.int .i64 a0.f0, .slice A1 a0.f1.length c2] 36]) [1, 0, 2] 3 rfl rfl rfl ?_
      refine TC.share (fun G14207 e14208 hs14209 hb14210 => ?_)
      have rd14211 : Rd G14207 k28 A14 y12.f1 := Rd.row hs14209
      have le14212 : y12.f1.length ≤ c15 := Row.le hs14209
      refine TC.regionAny [] mixed ?_
      refine TA.take 0 rfl (by kernel_rfl) rfl (PQ.then_ (PQ.then_ (PQ.then_ PQ.body))) rfl (Val.fieldAddrB Try.underlying36 rfl sz34 rfl rfl rfl) (fun W hO => hO) ?_
      refine TA.take 1 rfl (by kernel_rfl) rfl (PQ.then_ (PQ.then_ (PQ.then_ PQ.body))) rfl (Val.loadB 0 agg34 rfl rfl rfl) (fun W hO => hO) ?_
      refine TA.take 2 rfl (by kernel_rfl) rfl (PQ.then_ (PQ.then_ (PQ.then_ PQ.body))) rfl (Val.len Try.underlying34 rfl) (fun W hO => hO) ?_
      refine TA.take 3 rfl (by kernel_rfl) rfl (PQ.then_ (PQ.then_ (PQ.then_ PQ.body))) rfl (Val.fieldAddrB Try.underlying36 rfl sz34 rfl rfl rfl) (fun W hO => hO) ?_
      refine TA.take 4 rfl (by kernel_rfl) rfl (PQ.then_ (PQ.then_ (PQ.then_ PQ.body))) rfl (Val.loadB 1 agg34 rfl rfl rfl) (fun W hO => hO) ?_
      refine TA.take 5 rfl (by kernel_rfl) rfl (PQ.then_ (PQ.then_ (PQ.then_ PQ.body))) rfl (Val.len Try.underlying34 rfl) (fun W hO => hO) ?_
      refine TA.take 6 rfl (by kernel_rfl) rfl (PQ.then_ (PQ.then_ (PQ.then_ PQ.body))) rfl (Val.cmp rfl rfl run_neq) (fun W hO => hO) ?_
      refine TA.take 7 rfl (by kernel_rfl) rfl (PQ.then_ (PQ.then_ (PQ.then_ PQ.body))) rfl (Val.move rfl) (fun W hO => hO) ?_
      refine TK.split (p := (!decide ((y12.f1.length : Int) = (a0.f1.length : Int))) = true) h (fun hg14213 h => ?_) (fun hg14213 h => ?_)
      · have hk14214 : (!decide ((y12.f1.length : Int) = (a0.f1.length : Int))) = true := hg14213
        refine TA.not 8 rfl (by kernel_rfl) rfl (PQ.then_ (PQ.then_ (PQ.then_ PQ.body))) (Wt.no rfl rfl rfl hk14214) (fun W hO => hO) ?_
        refine TA.not 9 rfl (by kernel_rfl) rfl (PQ.then_ (PQ.then_ (PQ.then_ PQ.body))) (Wt.no rfl rfl rfl hk14214) (fun W hO => hO) ?_
        refine TA.not 10 rfl (by kernel_rfl) rfl (PQ.then_ (PQ.then_ (PQ.then_ PQ.body))) (Wt.no rfl rfl rfl hk14214) (fun W hO => hO) ?_
        refine TA.not 11 rfl (by kernel_rfl) rfl (PQ.then_ (PQ.then_ (PQ.then_ PQ.body))) (Wt.no rfl rfl rfl hk14214) (fun W hO => hO) ?_
        refine TA.not 12 rfl (by kernel_rfl) rfl (PQ.then_ (PQ.then_ (PQ.then_ PQ.body))) (Wt.no rfl rfl rfl hk14214) (fun W hO => hO) ?_
        refine TA.take 13 rfl (by kernel_rfl) rfl (PQ.then_ (PQ.then_ (PQ.then_ PQ.body))) rfl (Val.pickY rfl hk14214 rfl) (fun W hO => hO) ?_
        refine TA.done (by kernel_rfl) ?_
        refine TQ.back hb14210 ?_
        exact fun a W hF hO => ⟨true, h, hF.sub ⟨rfl, rfl, rfl, rfl, trivial⟩, hO.selT (Ls := [Blk b17 [.int .i64 y12.f0, .slice A14 y12.f1.length c15] 36, Blk b5 [.int .i64 a0.f0, .slice A1 a0.f1.length c2] 36, Row k28 28 (.slice A14 y12.f1.length c15) y12.f1]) [1, 2, 0] 3 rfl rfl rfl⟩
      · have hk14215 : (!decide ((y12.f1.length : Int) = (a0.f1.length : Int))) = false := (by simpa using hg14213)
        refine TA.take 8 rfl (by kernel_rfl) rfl (PQ.then_ (PQ.then_ (PQ.then_ PQ.body))) (Wt.yes rfl rfl rfl hk14215) (Val.loadsB 0 (cs := [.int .i64 y12.f0, .slice A14 y12.f1.length c15]) agg36 sz36 rfl rfl rfl rfl) (fun W hO => hO) ?_
        refine TA.take 10 rfl (by kernel_rfl) rfl (PQ.then_ (PQ.then_ (PQ.then_ PQ.body))) (Wt.yes rfl rfl rfl hk14215) (Val.loadsB 1 (cs := [.int .i64 a0.f0, .slice A1 a0.f1.length c2]) agg36 sz36 rfl rfl rfl rfl) (fun W hO => hO) ?_
        obtain ⟨y14216, hy14217, h⟩ := bind_no h
        refine TA.eff 9 rfl (by kernel_rfl) rfl (TL.callV (Lin := []) (args := [.agg #[.int .i64 y12.f0, .slice A14 y12.f1.length c15]]) (Wt.yes rfl rfl rfl hk14215) rfl rfl hb12 rfl rfl (deadstore_Stores.calls (a0 := y12) rd14211 le14212 hy14217) rfl ?_)
        rintro _ _ _ _ ⟨rfl, rfl, rfl⟩
        refine TA.next (fun W hO => hO) ?_
        obtain ⟨y14218, hy14219, h⟩ := bind_no h
        refine TA.eff 11 rfl (by kernel_rfl) rfl (TL.callV (Lin := []) (args := [.agg #[.int .i64 a0.f0, .slice A1 a0.f1.length c2]]) (Wt.yes rfl rfl rfl hk14215) rfl rfl hb12 rfl rfl (deadstore_Stores.calls (a0 := a0) (hr3.up e14208) hl4 hy14219) rfl ?_)
        rintro _ _ _ _ ⟨rfl, rfl, rfl⟩
        refine TA.next (fun W hO => hO) ?_
        refine TA.take 12 rfl (by kernel_rfl) rfl (PQ.then_ (PQ.then_ (PQ.then_ PQ.body))) (Wt.yes rfl rfl rfl hk14215) (Val.cmp rfl rfl run_gtr) (fun W hO => hO) ?_
        refine TA.take 13 rfl (by kernel_rfl) rfl (PQ.then_ (PQ.then_ (PQ.then_ PQ.body))) rfl (Val.pickN rfl hk14215 rfl) (fun W hO => hO) ?_
        refine TA.done (by kernel_rfl) ?_
        refine TQ.back hb14210 ?_
        exact fun a W hF hO => ⟨decide (y14218 < y14216), h, hF.sub ⟨rfl, rfl, rfl, rfl, trivial⟩, hO.selT (Ls := [Blk b17 [.int .i64 y12.f0, .slice A14 y12.f1.length c15] 36, Blk b5 [.int .i64 a0.f0, .slice A1 a0.f1.length c2] 36, Row k28 28 (.slice A14 y12.f1.length c15) y12.f1]) [1, 2, 0] 3 rfl rfl rfl⟩
end Go.Proofs.Ytmacdhkfgoahcaa.Sx
set_option linter.unusedVariables false
set_option linter.unusedSimpArgs false
namespace Go.Proofs.Ytmacdhkfgoahcaa.Sx
open Go Go.RowKit Go.Proofs.YtmacdhkfgoahcaaW.PrintWords Go.Proofs.Ytmacdhkfgoahcaa.Q Go.Proofs.Ytmacdhkfgoahcaa.Fo Go.Proofs.Ytmacdhkfgoahcaa.De
theorem small_true : swagelaw23_small.f = some true := by kernel_rfl
def kb (b : S28) : S28 := ⟨keep b.f0, b.f1⟩
theorem func_l0 (y : List S28) (hl : y.length ≤ 40) (hf : ∀ b ∈ y, Fit b.f0) : ∀ (r : List S28) (k fuel : Nat), y.drop k = r → r.length < fuel → deadstore_Func.l0 y fuel ((y.take k).map kb ++ r) k = some (y.map kb)
  | _, _, 0, _, h => by omega
  | [], k, fuel + 1, h, _ => by
    have := drop_nil h
    unfold deadstore_Func.l0
    rw [if_neg (by omega), List.take_of_length_le this, List.append_nil]
  | b :: r, k, fuel + 1, h, hfu => by
    obtain ⟨h1, h2, h3⟩ := drop_cons h
    simp only [List.length_cons] at hfu
    have hlen : ((y.take k).map kb).length = k := by simp; omega
    have hat : ((y.take k).map kb ++ b :: r)[k]? = some b := by
      rw [List.getElem?_append_right (by omega), hlen, Nat.sub_self]; rfl
    unfold deadstore_Func.l0
    rw [if_pos (by omega), at_nat, hat]
    simp only [Option.bind_some]
    rw [block_f (hf b (List.mem_of_getElem? h1))]
    simp only [Option.bind_some, Int.toNat_natCast]
    rw [wrap_succ (by omega)]
    have hset : ((y.take k).map kb ++ b :: r).set k ⟨keep b.f0, b.f1⟩ = (y.take (k + 1)).map kb ++ r := by
      rw [List.set_append_right _ _ (by omega), hlen, Nat.sub_self, List.set_cons_zero, List.take_add_one, h1]
      simp [kb]
    rw [hset, func_l0 y hl hf r (k + 1) fuel h3 (by omega)]
theorem func_f {a0 : S36} (hl : a0.f1.length ≤ 40) (hf : ∀ b ∈ a0.f1, Fit b.f0) : deadstore_Func.f a0 = some ⟨a0.f0, a0.f1.map kb⟩ := by
  unfold deadstore_Func.f slices_Clone_api_Block_api_Block.f
  rw [if_pos (by simp; omega)]
  simp only [Option.bind_some, List.nil_append]
  have q := func_l0 a0.f1 hl hf a0.f1 0 (a0.f1.length + 1) (by simp) (by omega)
  simp only [List.take_zero, List.map_nil, List.nil_append] at q
  have q' : deadstore_Func.l0 a0.f1 (a0.f1.length + 1) a0.f1 0 = _ := q
  rw [q']
  rfl
theorem ints_l0 (a : List Int) (hl : a.length < 9223372036854775807) : ∀ (r : List Int) (k fuel : Nat), a.drop k = r → r.length < fuel → swageref02_Ints.l0 a a fuel k = some (.inr ())
  | _, _, 0, _, h => by omega
  | [], k, fuel + 1, h, _ => by
    have := drop_nil h
    unfold swageref02_Ints.l0
    rw [if_neg (by omega)]
  | x :: r, k, fuel + 1, h, hf => by
    obtain ⟨h1, h2, h3⟩ := drop_cons h
    simp only [List.length_cons] at hf
    unfold swageref02_Ints.l0
    rw [if_pos (by omega), at_nat, h1]
    simp only [Option.bind_some]
    rw [if_neg (by simp), wrap_succ (by omega), ints_l0 a hl r (k + 1) fuel h3 (by omega)]
theorem ints_same (a : List Int) (hl : a.length < 9223372036854775807) : swageref02_Ints.f a a = some true := by
  unfold swageref02_Ints.f
  rw [if_neg (by simp)]
  have q' : swageref02_Ints.l0 a a (a.length + 1) 0 = _ := ints_l0 a hl a 0 (a.length + 1) (by simp) (by omega)
  rw [q']; rfl
theorem sameOp_self (x : S30) (hl : x.f5.length < 9223372036854775807) : swageref14_SameOp.f x x = some true := by
  unfold swageref14_SameOp.f
  rw [ints_same _ hl]
  simp
def ns (l : List S30) : List S30 := l.filter fun x => !(x.f0 == 5)
theorem ns_keep : ∀ (l : List S30), ns (keep l) = ns l
  | [] => rfl
  | x :: r => by
    unfold keep
    by_cases h : deadP (bk r) x = true
    · rw [if_pos h, ns_keep r]
      rw [deadP_hit] at h
      have h5 := ((Bool.and_eq_true _ _).mp h).1
      simp [ns, List.filter_cons, h5]
    · rw [if_neg h]
      have := ns_keep r
      simp only [ns, List.filter_cons] at this ⊢
      rw [this]
theorem stores_keep : ∀ (l : List S30), stores (keep l) ≤ stores l
  | [] => Nat.le_refl _
  | x :: r => by
    have := stores_keep r
    unfold keep
    by_cases h : deadP (bk r) x = true
    · rw [if_pos h]; simp only [stores, List.countP_cons] at this ⊢; omega
    · rw [if_neg h]; simp only [stores, List.countP_cons] at this ⊢; omega
theorem storesB_keep : ∀ (l : List S28), storesB (l.map kb) ≤ storesB l
  | [] => Nat.le_refl _
  | b :: r => by
    have h1 := storesB_keep r
    have h2 := stores_keep b.f0
    simp only [storesB, List.map_cons, List.sum_cons, kb] at h1 ⊢
    omega
theorem sizeB_keep : ∀ (l : List S28), sizeB (l.map kb) ≤ sizeB l
  | [] => Nat.le_refl _
  | b :: r => by
    have h1 := sizeB_keep r
    have h2 := keep_length b.f0
    simp only [sizeB, List.map_cons, List.sum_cons, kb] at h1 ⊢
    omega
section
variable (y : S36) (i : Nat) (b : S28) (hb : y.f1[i]? = some b) (hl : b.f0.length < 4611686018427387904)
include hb hl
theorem leaves_l3 : ∀ (r : List S30) (m fuel : Nat), b.f0.drop m = r → r.length < fuel → ∃ m' : Nat, swagelaw23_DeadLeaves.l3 y i fuel m = some (m' : Int) ∧ b.f0.drop m' = r.dropWhile (fun x => x.f0 == 5)
  | _, _, 0, _, h => by omega
  | [], m, fuel + 1, h, _ => by
    have := drop_nil h
    refine ⟨m, ?_, by simpa using h⟩
    unfold swagelaw23_DeadLeaves.l3
    simp only [jn]
    rw [at_nat, hb]
    simp only [Option.bind_some]
    rw [if_neg (by omega)]; simp
  | x :: r, m, fuel + 1, h, hf => by
    obtain ⟨h1, h2, h3⟩ := drop_cons h
    simp only [List.length_cons] at hf
    unfold swagelaw23_DeadLeaves.l3
    simp only [jn]
    rw [at_nat, hb]
    simp only [Option.bind_some]
    rw [if_pos (by omega), at_nat, h1]
    simp only [Option.bind_some]
    by_cases h5 : x.f0 = 5
    · rw [if_pos (by simpa using h5), wrap_succ (by omega)]
      obtain ⟨m', e1, e2⟩ := leaves_l3 r (m + 1) fuel h3 (by omega)
      exact ⟨m', e1, by rw [e2]; simp [List.dropWhile_cons, h5]⟩
    · rw [if_neg (by simpa using h5)]
      exact ⟨m, rfl, by rw [h]; simp [List.dropWhile_cons, h5]⟩
theorem leaves_l2 : ∀ (r : List S30) (m fuel : Nat), b.f0.drop m = r → r.length < fuel → ns r = [] → swagelaw23_DeadLeaves.l2 y i fuel m = some (.inr ())
  | _, _, 0, _, h, _ => by omega
  | [], m, fuel + 1, h, _, _ => by
    have := drop_nil h
    unfold swagelaw23_DeadLeaves.l2
    rw [at_nat, hb]
    simp only [Option.bind_some]
    rw [if_neg (by omega)]
  | x :: r, m, fuel + 1, h, hf, hn => by
    obtain ⟨h1, h2, h3⟩ := drop_cons h
    simp only [List.length_cons] at hf
    have h5 : x.f0 = 5 := by
      by_cases h5 : x.f0 = 5
      · exact h5
      · simp [ns, List.filter_cons, h5] at hn
    unfold swagelaw23_DeadLeaves.l2
    rw [at_nat, hb]
    simp only [Option.bind_some]
    rw [if_pos (by omega), at_nat, h1]
    simp only [Option.bind_some]
    rw [if_neg (by simp [h5]), wrap_succ (by omega), leaves_l2 r (m + 1) fuel h3 (by omega) (by simpa [ns, List.filter_cons, h5] using hn)]
end
theorem ns_dropWhile : ∀ (l : List S30), ns (l.dropWhile (fun x => x.f0 == 5)) = ns l
  | [] => rfl
  | x :: r => by
    by_cases h5 : x.f0 = 5
    · simp only [List.dropWhile_cons, h5, beq_self_eq_true, if_true, ns_dropWhile r]
      simp [ns, List.filter_cons, h5]
    · simp [List.dropWhile_cons, h5]
theorem dropWhile_head {l : List S30} {x : S30} {q : List S30} (h : ns l = x :: q) : ∃ t, l.dropWhile (fun x => x.f0 == 5) = x :: t ∧ ns t = q := by
  induction l with
  | nil => cases h
  | cons y r ih =>
    by_cases h5 : y.f0 = 5
    · have h' : ns r = x :: q := by simpa [ns, List.filter_cons, h5] using h
      obtain ⟨t, e1, e2⟩ := ih h'
      exact ⟨t, by simp [List.dropWhile_cons, h5, e1], e2⟩
    · have h' : y :: ns r = x :: q := by simpa [ns, List.filter_cons, h5] using h
      injection h' with e1 e2
      subst e1
      exact ⟨r, by simp [List.dropWhile_cons, h5], e2⟩
theorem leaves_l1 (a0 y : S36) (i : Nat) (b c : S28) (ha : a0.f1[i]? = some b) (hy : y.f1[i]? = some c) (hlb : b.f0.length < 4611686018427387904) (hlc : c.f0.length < 4611686018427387904) (hargs : ∀ x ∈ b.f0, x.f5.length < 9223372036854775807) :
    ∀ (r : List S30) (j m fuel : Nat), b.f0.drop j = r → r.length < fuel → ns (c.f0.drop m) = ns r → ∃ m' : Nat, swagelaw23_DeadLeaves.l1 a0 y i fuel m j = some (.inr (m' : Int)) ∧ ns (c.f0.drop m') = []
  | _, _, _, 0, _, h, _ => by omega
  | [], j, m, fuel + 1, h, _, hn => by
    have := drop_nil h
    refine ⟨m, ?_, hn⟩
    unfold swagelaw23_DeadLeaves.l1
    rw [at_nat, ha]
    simp only [Option.bind_some]
    rw [if_neg (by omega)]
  | x :: r, j, m, fuel + 1, h, hf, hn => by
    obtain ⟨h1, h2, h3⟩ := drop_cons h
    simp only [List.length_cons] at hf
    unfold swagelaw23_DeadLeaves.l1
    rw [at_nat, ha]
    simp only [Option.bind_some]
    rw [if_pos (by omega)]
    simp only [jn]
    rw [at_nat, h1]
    simp only [Option.bind_some]
    rw [wrap_succ (by omega)]
    by_cases h5 : x.f0 = 5
    · rw [if_pos h5]
      exact leaves_l1 a0 y i b c ha hy hlb hlc hargs r (j + 1) m fuel h3 (by omega) (by rw [hn]; simp [ns, List.filter_cons, h5])
    · rw [if_neg h5, at_nat, hy]
      simp only [Option.elim_some]
      obtain ⟨m', e1, e2⟩ := leaves_l3 y i c hy hlc (c.f0.drop m) m (c.f0.length + 1) rfl (by rw [List.length_drop]; omega)
      rw [e1]
      simp only [Option.bind_some]
      have hn' : ns (c.f0.drop m) = x :: ns r := by rw [hn]; simp [ns, List.filter_cons, h5]
      obtain ⟨t, e3, e4⟩ := dropWhile_head hn'
      rw [e3] at e2
      obtain ⟨g1, g2, g3⟩ := drop_cons e2
      rw [if_neg (by omega), at_nat, g1]
      simp only [Option.bind_some]
      rw [sameOp_self x (hargs x (List.mem_of_getElem? h1))]
      simp only [Option.bind_some, Bool.not_true, Bool.false_eq_true, if_false]
      rw [wrap_succ (by omega)]
      exact leaves_l1 a0 y i b c ha hy hlb hlc hargs r (j + 1) (m' + 1) fuel h3 (by omega) (by rw [g3, e4])
theorem leaves_l0 (a0 : S36) (hl : a0.f1.length ≤ 40) (hf : ∀ b ∈ a0.f1, b.f0.length ≤ 250 ∧ Fit b.f0) : ∀ (r : List S28) (k fuel : Nat), a0.f1.drop k = r → r.length < fuel → swagelaw23_DeadLeaves.l0 a0 ⟨a0.f0, a0.f1.map kb⟩ fuel k = some (.inr ())
  | _, _, 0, _, h => by omega
  | [], k, fuel + 1, h, _ => by
    have := drop_nil h
    unfold swagelaw23_DeadLeaves.l0
    rw [if_neg (by omega)]
  | b :: r, k, fuel + 1, h, hfu => by
    obtain ⟨h1, h2, h3⟩ := drop_cons h
    simp only [List.length_cons] at hfu
    obtain ⟨hb, hfit⟩ := hf b (List.mem_of_getElem? h1)
    have hk : (a0.f1.map kb)[k]? = some (kb b) := by rw [List.getElem?_map, h1]; rfl
    have hkl : (kb b).f0.length ≤ 250 := Nat.le_trans (keep_length b.f0) hb
    unfold swagelaw23_DeadLeaves.l0
    rw [if_pos (by omega), at_nat, h1]
    simp only [Option.elim_some]
    obtain ⟨m, e1, e2⟩ := leaves_l1 a0 ⟨a0.f0, a0.f1.map kb⟩ k b (kb b) h1 hk (by omega) (by omega) (fun x hx => by have := hfit.args x hx; omega) b.f0 0 0 (b.f0.length + 1) (by simp) (by omega) (by rw [List.drop_zero]; exact ns_keep b.f0)
    have e1' : swagelaw23_DeadLeaves.l1 a0 ⟨a0.f0, a0.f1.map kb⟩ k (b.f0.length + 1) 0 0 = _ := e1
    rw [e1']
    simp only [Option.bind_some]
    rw [at_nat, hk]
    simp only [Option.elim_some]
    rw [leaves_l2 ⟨a0.f0, a0.f1.map kb⟩ k (kb b) hk (by omega) ((kb b).f0.drop m) m _ rfl (by rw [List.length_drop]; omega) e2]
    simp only [Option.bind_some, jn]
    have hd : deadstore_Dead.f (kb b) = some [] := by
      have q : deadstore_Dead.f ⟨keep b.f0, b.f1⟩ = some (deadL (keep b.f0)) := dead_f hfit.keep
      rw [deadL_keep] at q; exact q
    rw [hd]
    simp only [Option.bind_some]
    rw [if_neg (by simp)]
    have ht : (kb b).f1 = b.f1 := rfl
    rw [ht]
    simp only [beq_self_eq_true, Bool.and_self, Bool.not_true, Bool.false_eq_true, if_false]
    rw [wrap_succ (by omega)]
    exact leaves_l0 a0 hl hf r (k + 1) fuel h3 (by omega)
theorem deadLeaves_true (a0 : S36) (h : In36 a0) : swagelaw23_DeadLeaves.f a0 = some true := by
  obtain ⟨bf, e1, e2⟩ := few_f h
  unfold swagelaw23_DeadLeaves.f
  rw [small_true, e1]
  simp only [Option.bind_some]
  cases bf with
  | false => rw [if_pos (by rfl)]
  | true =>
    obtain ⟨h40, hs, hf⟩ := e2 rfl
    rw [if_neg (by decide), func_f h40 (fun b hb => (hf b hb).2)]
    simp only [Option.bind_some, jn, List.length_map]
    rw [if_neg (by simp)]
    have hk := sizeB_keep a0.f1
    have hle := storesB_keep a0.f1
    rw [stores_f (a0 := ⟨a0.f0, a0.f1.map kb⟩) (by show sizeB (a0.f1.map kb) < _; omega) (by simp; omega), stores_f (a0 := a0) (by omega) (by omega)]
    simp only [Option.bind_some]
    rw [if_neg (by simp; omega)]
    have q : swagelaw23_DeadLeaves.l0 a0 ⟨a0.f0, a0.f1.map kb⟩ (a0.f1.length + 1) 0 = _ := leaves_l0 a0 h40 hf a0.f1 0 (a0.f1.length + 1) (by simp) (by omega)
    rw [q]
    rfl
end Go.Proofs.Ytmacdhkfgoahcaa.Sx
