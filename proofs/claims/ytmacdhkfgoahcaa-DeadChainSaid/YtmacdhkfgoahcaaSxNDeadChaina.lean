/- Texts of this work, joined: SxDead, SxKD, SxF37, SxF38, SxF11, PureDA, SxF12, PureDB, SxF19, SxF33, SxF9, SxF3, PureDC. -/
import Derived.Test.YtmacdhkfgoahcaaSxM
import Derived.Test.YtmacdhkfgoahcaaDeD
import Derived.Test.YtmacdhkfgoahcaaQx0
set_option linter.unusedVariables false
namespace Go.Proofs.Ytmacdhkfgoahcaa.Sx
open Go Go.RowKit Go.Proofs.YtmacdhkfgoahcaaW.PrintWords Go.Proofs.Ytmacdhkfgoahcaa.Q Go.Proofs.Ytmacdhkfgoahcaa.Fo Go.Proofs.Ytmacdhkfgoahcaa.De
instance (n : Int) : Decidable (wf n) := by unfold wf; infer_instance
instance (x : S30) : Decidable (WfOp x) := decidable_of_iff (wf x.f1 ∧ wf x.f2 ∧ wf x.f3 ∧ wf x.f4 ∧ ∀ r ∈ x.f5, wf r) ⟨fun h => ⟨h.1, h.2.1, h.2.2.1, h.2.2.2.1, h.2.2.2.2⟩, fun h => ⟨h.h1, h.h2, h.h3, h.h4, h.h5⟩⟩
def deadstore_Dead.f (a0 : S28) : Option (List Int) := if (∀ x ∈ a0.f0, WfOp x) ∧ a0.f0.length < 1099511627776 then some (deadL a0.f0) else none
def deadstore_Dead.post (G : Gd) (r : (List Int)) (v : Value) (G' : Gd) (Lr : List Ch) : Prop := G = G' ∧ ∃ (A_1 : Option Addr) (c_1 : Nat), v = .slice A_1 r.length c_1 ∧ Lr = [Row (Kd.int .i64) 3 (.slice A_1 r.length c_1) r]
theorem deadstore_Dead.calls {G : Gd} {r : (List Int)} {a0 : S28} {A1 : Option Addr} {c2 : Nat} (hr3 : Rd G k30 A1 a0.f0) (hl4 : a0.f0.length ≤ c2) (h : deadstore_Dead.f a0 = some r) : Fn Try.prog 10 G [] [.agg #[.slice A1 a0.f0.length c2, .int .i64 a0.f1.f0, .int .i64 a0.f1.f1, .int .i64 a0.f1.f2, .int .i64 a0.f1.f3]] (deadstore_Dead.post G r) := fun L W hO => by
  unfold deadstore_Dead.f at h
  obtain ⟨⟨h1, h2⟩, h⟩ := ite_no h
  obtain rfl := Option.some.inj h
  refine (dead_any A1 c2 a0.f0 a0.f1 W (hr3 W hO.ok) h1 h2).mono ?_
  rintro en W' ⟨v, rfl, hR, hB⟩
  obtain ⟨A', c', he, hl', _⟩ := Kd.R_reads hR
  subst he
  refine ⟨_, G, _, rfl, Gd.le.refl _, ⟨rfl, A', c', rfl, rfl⟩, ?_⟩
  refine hO.add hB ?_
  exact Kd.R_lower (base' := G.B) (Kd.R_mono (Kd.R_bound hR) (fun i hi => hi.2.1)) hO.B
end Go.Proofs.Ytmacdhkfgoahcaa.Sx
set_option linter.unusedVariables false
set_option linter.unusedSimpArgs false
set_option maxRecDepth 100000
set_option maxHeartbeats 4000000
namespace Go.Proofs.Ytmacdhkfgoahcaa.Sx
open Go Go.RowKit Go.Proofs.YtmacdhkfgoahcaaW.PrintWords Go.Proofs.Ytmacdhkfgoahcaa.Q
/-! #### struct type 36 -/
structure S36 where
  f0 : Int
  f1 : (List S28)
def z36 : S36 := ⟨(0 : Int), ([] : List S28)⟩
def k36 : Kd S36 := Kd.iso (Kd.pair (Kd.int .i64) (Kd.slice 28 k28)) (fun x : S36 => (x.f0, x.f1))
theorem k36_open {w : World} {x : S36} {cs : List Value} (h : k36.K w x cs) : ∃ A1 c1, cs = [.int .i64 x.f0, .slice A1 x.f1.length c1] ∧ x.f1.length ≤ c1 ∧ k28.C w A1 x.f1.length x.f1 := by
  obtain ⟨_, _, rfl, rfl, ⟨A1, c1, rfl, l1, g1⟩⟩ := h
  exact ⟨A1, c1, rfl, l1, g1⟩
theorem k36_openM {w : World} {base : Nat} {ok : Nat → Prop} {x : S36} {cs : List Value} (h : k36.M w base ok x cs) : ∃ v1, cs = [.int .i64 x.f0, v1] ∧ k28.R 28 w base ok v1 x.f1 := by
  obtain ⟨_, _, rfl, rfl, ⟨v1, rfl, g1⟩⟩ := h
  exact ⟨v1, rfl, g1⟩
theorem k36_mk (w : World) (x : S36) {A1 : Option Addr} {c1 : Nat} (l1 : x.f1.length ≤ c1) (g1 : k28.C w A1 x.f1.length x.f1) : k36.K w x [.int .i64 x.f0, .slice A1 x.f1.length c1] := ⟨[.int .i64 x.f0], [.slice A1 x.f1.length c1], rfl, rfl, ⟨A1, c1, rfl, l1, g1⟩⟩
theorem k36_mkM (w : World) (base : Nat) (ok : Nat → Prop) (x : S36) {v1 : Value} (g1 : k28.R 28 w base ok v1 x.f1) : k36.M w base ok x [.int .i64 x.f0, v1] := ⟨[.int .i64 x.f0], [v1], rfl, rfl, ⟨v1, rfl, g1⟩⟩
def rd_T36 (xs : List S36) (i : Int) : S36 := xs.getD i.toNat z36
theorem at_T36 {w : World} {A : Option Addr} {n : Nat} {xs : List S36} (h : Kd.C k36 w A n xs) (i : Int) (h0 : 0 ≤ i) (h1 : i < n) : ∃ ad A1 c1, A = some ad ∧ w.cell? (ad.add (i.toNat * 2)) = some (.int .i64 (rd_T36 xs i).f0) ∧ w.cell? ⟨(ad.add (i.toNat * 2)).block, (ad.add (i.toNat * 2)).off + 1, none⟩ = some (.slice A1 (rd_T36 xs i).f1.length c1) ∧ (rd_T36 xs i).f1.length ≤ c1 ∧ k28.C w A1 (rd_T36 xs i).f1.length (rd_T36 xs i).f1 := by
  obtain ⟨ad, c, e, _, hK, hc0⟩ := Kd.C_get h z36 i h0 h1
  have hc : ∀ j u, c[j]? = some u → w.cell? (ad.add (i.toNat * 2 + j)) = some u := hc0
  obtain ⟨A1, c1, rfl, l1, g1⟩ := k36_open hK
  exact ⟨ad, A1, c1, e, hc 0 _ rfl, by rw [← add_field _ _ 1 (by omega)]; exact hc 1 _ rfl, l1, g1⟩

theorem k28_openR {G : Gd} {x : S28} {cs : List Value} (h : RdK G k28 x cs) : ∃ A0 c0, cs = [.slice A0 x.f0.length c0, .int .i64 x.f1.f0, .int .i64 x.f1.f1, .int .i64 x.f1.f2, .int .i64 x.f1.f3] ∧ Rd G k30 A0 x.f0 ∧ x.f0.length ≤ c0 := by
  obtain ⟨A0, c0, rfl, l0, g0⟩ := k28_open (h G.W0 G.self)
  exact ⟨A0, c0, rfl, (fun W hW => by obtain ⟨A0', c0', he, l0', g0'⟩ := k28_open (h W hW); injection (Option.some.inj (congrArg (fun l => l[0]?) he)) with ha_ _ _; rw [ha_]; exact g0'), l0⟩
theorem k30_openR {G : Gd} {x : S30} {cs : List Value} (h : RdK G k30 x cs) : ∃ A5 c5, cs = [.int .i64 x.f0, .int .i64 x.f1, .int .i64 x.f2, .int .i64 x.f3, .int .i64 x.f4, .slice A5 x.f5.length c5] ∧ Rd G (Kd.int .i64) A5 x.f5 ∧ x.f5.length ≤ c5 := by
  obtain ⟨A5, c5, rfl, l5, g5⟩ := k30_open (h G.W0 G.self)
  exact ⟨A5, c5, rfl, (fun W hW => by obtain ⟨A5', c5', he, l5', g5'⟩ := k30_open (h W hW); injection (Option.some.inj (congrArg (fun l => l[5]?) he)) with ha_ _ _; rw [ha_]; exact g5'), l5⟩
theorem agg3 : aggB Try.prog 3 = some false := by kernel_rfl
theorem agg22 : aggB Try.prog 22 = some false := by kernel_rfl
theorem agg25 : aggB Try.prog 25 = some true := by kernel_rfl
theorem agg26 : aggB Try.prog 26 = some false := by kernel_rfl
theorem agg28 : aggB Try.prog 28 = some true := by kernel_rfl
theorem agg30 : aggB Try.prog 30 = some true := by kernel_rfl
theorem agg34 : aggB Try.prog 34 = some false := by kernel_rfl
theorem agg36 : aggB Try.prog 36 = some true := by kernel_rfl
theorem bld25 : (match Try.prog.underlying 25 with | some (.struct fs) => fs.toList.map (fun f => (Try.prog.info? f.type).map (·.size)) | _ => []) = [1, 1, 1, 1].map some := by kernel_rfl
theorem bld28 : (match Try.prog.underlying 28 with | some (.struct fs) => fs.toList.map (fun f => (Try.prog.info? f.type).map (·.size)) | _ => []) = [1, 4].map some := by kernel_rfl
theorem bld30 : (match Try.prog.underlying 30 with | some (.struct fs) => fs.toList.map (fun f => (Try.prog.info? f.type).map (·.size)) | _ => []) = [1, 1, 1, 1, 1, 1].map some := by kernel_rfl
theorem bld36 : (match Try.prog.underlying 36 with | some (.struct fs) => fs.toList.map (fun f => (Try.prog.info? f.type).map (·.size)) | _ => []) = [1, 1].map some := by kernel_rfl
theorem eqg25 : Try.prog.eqGuardType Try.prog.depth 25 = false := by kernel_rfl
theorem eqs25 (d : Nat) (w : World) (x0 y0 : Int) (x1 y1 : Int) (x2 y2 : Int) (x3 y3 : Int) : (Op.equalIn (d + 2) 25 (.agg #[.int .i64 x0, .int .i64 x1, .int .i64 x2, .int .i64 x3]) (.agg #[.int .i64 y0, .int .i64 y1, .int .i64 y2, .int .i64 y3])).run Try.prog w = .ok ((x0 == y0) && ((x1 == y1) && ((x2 == y2) && (x3 == y3)))) w := by
  refine fld_of Try.underlying25 (by kernel_rfl) ?_
  refine fld_cons (by rfl) (by go_simp; rfl) (by go_simp; rfl) (by go_simp) ?_
  refine fld_cons (by rfl) (by go_simp; rfl) (by go_simp; rfl) (by go_simp) ?_
  refine fld_cons (by rfl) (by go_simp; rfl) (by go_simp; rfl) (by go_simp) ?_
  exact fld_last (by rfl) (by go_simp; rfl) (by go_simp; rfl) (by go_simp)
theorem hb9 : hasBody Try.prog 9 = true := by kernel_rfl
theorem hb10 : hasBody Try.prog 10 = true := by kernel_rfl
theorem hb11 : hasBody Try.prog 11 = true := by kernel_rfl
theorem hb12 : hasBody Try.prog 12 = true := by kernel_rfl
theorem hb13 : hasBody Try.prog 13 = true := by kernel_rfl
theorem hb14 : hasBody Try.prog 14 = true := by kernel_rfl
theorem hb15 : hasBody Try.prog 15 = true := by kernel_rfl
theorem hb19 : hasBody Try.prog 19 = true := by kernel_rfl
theorem hb21 : hasBody Try.prog 21 = true := by kernel_rfl
theorem hb33 : hasBody Try.prog 33 = true := by kernel_rfl
theorem hb37 : hasBody Try.prog 37 = true := by kernel_rfl
theorem hb38 : hasBody Try.prog 38 = true := by kernel_rfl
theorem hb39 : hasBody Try.prog 39 = true := by kernel_rfl
theorem hb40 : hasBody Try.prog 40 = true := by kernel_rfl
theorem hb41 : hasBody Try.prog 41 = true := by kernel_rfl
theorem hb64 : hasBody Try.prog 64 = true := by kernel_rfl
theorem hb65 : hasBody Try.prog 65 = true := by kernel_rfl
theorem inf3 : (Try.prog.info? 3).map (fun i => (i.zero, i.size, i.bytes)) = some (some (.int .i64 0), 1, 8) := by kernel_rfl
theorem inf28 : (Try.prog.info? 28).map (fun i => (i.zero, i.size, i.bytes)) = some (some (.agg #[.slice none 0 0, .int .i64 0, .int .i64 0, .int .i64 0, .int .i64 0]), 5, 56) := by kernel_rfl
theorem inf30 : (Try.prog.info? 30).map (fun i => (i.zero, i.size, i.bytes)) = some (some (.agg #[.int .i64 0, .int .i64 0, .int .i64 0, .int .i64 0, .int .i64 0, .slice none 0 0]), 6, 64) := by kernel_rfl
theorem mixed : Try.prog.follows .mixedOrders = true := by kernel_rfl
theorem sz3 : (Try.prog.info? 3).map (·.size) = some 1 := by kernel_rfl
theorem sz22 : (Try.prog.info? 22).map (·.size) = some 1 := by kernel_rfl
theorem sz25 : (Try.prog.info? 25).map (·.size) = some 4 := by kernel_rfl
theorem sz26 : (Try.prog.info? 26).map (·.size) = some 1 := by kernel_rfl
theorem sz28 : (Try.prog.info? 28).map (·.size) = some 5 := by kernel_rfl
theorem sz30 : (Try.prog.info? 30).map (·.size) = some 6 := by kernel_rfl
theorem sz34 : (Try.prog.info? 34).map (·.size) = some 1 := by kernel_rfl
theorem sz36 : (Try.prog.info? 36).map (·.size) = some 2 := by kernel_rfl
theorem zr25 : (Try.prog.info? 25).bind (·.zero) = some (.agg #[.int .i64 0, .int .i64 0, .int .i64 0, .int .i64 0]) := by kernel_rfl
theorem zr28 : (Try.prog.info? 28).bind (·.zero) = some (.agg #[.slice none 0 0, .int .i64 0, .int .i64 0, .int .i64 0, .int .i64 0]) := by kernel_rfl
theorem zr30 : (Try.prog.info? 30).bind (·.zero) = some (.agg #[.int .i64 0, .int .i64 0, .int .i64 0, .int .i64 0, .int .i64 0, .slice none 0 0]) := by kernel_rfl
theorem zr36 : (Try.prog.info? 36).bind (·.zero) = some (.agg #[.int .i64 0, .slice none 0 0]) := by kernel_rfl
theorem zs3 : (Try.prog.info? 3).map (fun i => (i.zero, i.size)) = some (some (.int .i64 0), 1) := by kernel_rfl
theorem zs28 : (Try.prog.info? 28).map (fun i => (i.zero, i.size)) = some (some (.agg #[.slice none 0 0, .int .i64 0, .int .i64 0, .int .i64 0, .int .i64 0]), 5) := by kernel_rfl
theorem zs30 : (Try.prog.info? 30).map (fun i => (i.zero, i.size)) = some (some (.agg #[.int .i64 0, .int .i64 0, .int .i64 0, .int .i64 0, .int .i64 0, .slice none 0 0]), 6) := by kernel_rfl
end Go.Proofs.Ytmacdhkfgoahcaa.Sx
set_option linter.unusedVariables false
set_option linter.unusedSimpArgs false
set_option maxRecDepth 100000
set_option maxHeartbeats 4000000
namespace Go.Proofs.Ytmacdhkfgoahcaa.Sx
open Go Go.RowKit Go.Proofs.YtmacdhkfgoahcaaW.PrintWords Go.Proofs.Ytmacdhkfgoahcaa.Q
def slices_Clone_int_int.f (a0 : (List Int)) : Option (List Int) := (if ([] : List Int).length + a0.length ≤ 17592186044416 then some (([] : List Int) ++ a0) else none)
def slices_Clone_int_int.post (G : Gd) (r : (List Int)) (v : Value) (G' : Gd) (Lr : List Ch) : Prop := G = G' ∧ ∃ (A_1 : Option Addr) (c_1 : Nat), v = .slice A_1 r.length c_1 ∧ Lr = [Row (Kd.int .i64) 3 (.slice A_1 r.length c_1) r]
theorem slices_Clone_int_int.calls {G : Gd} {r : (List Int)} {a0 : (List Int)} {A1 : Option Addr} {c2 : Nat} (hr3 : Rd G (Kd.int .i64) A1 a0) (hl4 : a0.length ≤ c2) (h : slices_Clone_int_int.f a0 = some r) : Fn Try.prog 37 G [] [.slice A1 a0.length c2] (slices_Clone_int_int.post G r) := by
  refine Fn.intro Try.func37 rfl Try.ntmps37 rfl (Nat.le_of_ble_eq_true rfl) (fun L => ?_)
  unfold slices_Clone_int_int.f at h
  refine TC.seq ?_
  refine TC.region ?_
  refine TL.cons (TO.val rfl rfl rfl (Val.assign rfl) ?_)
  refine TL.nil ?_
  refine TQ.then_ ?_
  refine TC.seq ?_
  refine TC.seq ?_
  refine TC.region ?_
  refine TL.cons (TO.val rfl rfl rfl (Val.move rfl) ?_)
  refine TL.cons (TO.val rfl rfl rfl (Val.eqNil Try.underlying22 rfl) ?_)
  refine TL.nil ?_
  refine TQ.then_ ?_
  refine TC.cond rfl (fun hc7 => ?_) (fun hc7 => ?_)
  · have hn := Rd.nilEq hr3 hc7
    have h : some ([] : List Int) = some r := by first | (simpa [hn] using h) | (simp [hn] at h; simp [h, hn])
    refine TC.seq ?_
    refine TC.region ?_
    refine TL.cons (TO.val rfl rfl rfl (Val.assign rfl) ?_)
    refine TL.nil ?_
    refine TQ.then_ ?_
    refine TC.ret ?_
    refine TQ.thenR ?_
    refine TQ.nilRow (Kd.int .i64) 3 ?_
    obtain rfl := Option.some.inj h
    exact TQ.done (Ls := [Row (Kd.int .i64) 3 (.slice none 0 0) ([] : List Int)]) (.inl rfl) [0] 1 Try.results37 (.tmp rfl .nil) rfl (Gd.le.refl _) rfl rfl rfl ⟨rfl, none, 0, rfl, rfl⟩
  · refine TC.skip ?_
    refine TQ.then_ ?_
    refine TC.seq ?_
    refine TC.region ?_
    refine TL.cons (TL.buildSlice0 (Kd.int .i64) rfl rfl Try.underlying22 zs3 (fun b9 => ?_))
    refine TL.cons (TO.val rfl rfl rfl (Val.move rfl) ?_)
    obtain ⟨ha11, h⟩ := ite_no h
    refine TL.cons (TL.appendR (xs := ([] : List Int)) (ys := a0) (Kd.int .i64) (Kd.int .i64) rfl rfl Try.underlying22 inf3 rfl (Nat.le_of_ble_eq_true rfl) (Nat.le_of_ble_eq_true rfl) rfl rfl (by omega) hr3 rfl (fun _ _ _ _ _ h => h) (fun A12 c13 => ?_))
    refine TL.cons (TO.val rfl rfl rfl (Val.assign rfl) ?_)
    refine TL.nil ?_
    refine TQ.then_ ?_
    refine TC.ret ?_
    obtain rfl := Option.some.inj h
    exact TQ.done (Ls := [Row (Kd.int .i64) 3 (.slice A12 (([] : List Int) ++ a0).length c13) (([] : List Int) ++ a0)]) (.inl rfl) [0] 1 Try.results37 (.tmp rfl .nil) rfl (Gd.le.refl _) rfl rfl rfl ⟨rfl, A12, c13, rfl, rfl⟩
end Go.Proofs.Ytmacdhkfgoahcaa.Sx
set_option linter.unusedVariables false
set_option linter.unusedSimpArgs false
set_option maxRecDepth 100000
set_option maxHeartbeats 4000000
namespace Go.Proofs.Ytmacdhkfgoahcaa.Sx
open Go Go.RowKit Go.Proofs.YtmacdhkfgoahcaaW.PrintWords Go.Proofs.Ytmacdhkfgoahcaa.Q
def slices_Delete_api_Op_api_Op.f (a0 : List S30) (a1 a2 : Int) : Option (List S30) := if 0 ≤ a1 ∧ a1 ≤ a2 ∧ a2 ≤ (a0.length : Int) then some (a0.take a1.toNat ++ a0.drop a2.toNat) else none
def slices_Delete_api_Op_api_Op.post (G : Gd) (r : List S30) (v : Value) (G' : Gd) (Lr : List Ch) : Prop := G = G' ∧ ∃ (A_1 : Option Addr) (c_1 : Nat), v = .slice A_1 r.length c_1 ∧ Lr = [Row k30 30 (.slice A_1 r.length c_1) r]
theorem slices_Delete_api_Op_api_Op.calls {G : Gd} {r a0 : List S30} {a1 a2 : Int} {A1 : Option Addr} {c2 : Nat} (h : slices_Delete_api_Op_api_Op.f a0 a1 a2 = some r) : Fn Try.prog 38 G [Row k30 30 (.slice A1 a0.length c2) a0] [.slice A1 a0.length c2, .int .i64 a1, .int .i64 a2] (slices_Delete_api_Op_api_Op.post G r) := by
  refine Fn.intro Try.func38 rfl Try.ntmps38 rfl (Nat.le_of_ble_eq_true rfl) (fun L => ?_)
  unfold slices_Delete_api_Op_api_Op.f at h
  obtain ⟨⟨h0, h1, h2⟩, h⟩ := ite_no h
  refine TC.rowle 0 rfl (fun hle hmax hA => ?_)
  refine TC.seq ?_
  refine TC.region ?_
  refine TL.cons (TO.val rfl rfl rfl (Val.assign rfl) ?_)
  refine TL.nil ?_
  refine TQ.then_ ?_
  refine TC.seq ?_
  refine TC.region ?_
  refine TL.cons (TO.val rfl rfl rfl (Val.move rfl) ?_)
  refine TL.cons (TO.val rfl rfl rfl (Val.move rfl) ?_)
  refine TL.cons (TO.val rfl rfl rfl (Val.move rfl) ?_)
  refine TL.cons (TO.val rfl rfl rfl (Val.move rfl) ?_)
  refine TL.cons (TO.val rfl rfl rfl (Val.len Try.underlying26 rfl) ?_)
  refine TL.cons (TO.valE rfl rfl rfl (Val.cut3 Try.underlying26 sz30 rfl rfl rfl rfl h0 h1 h2 (by omega)) (fun v3 => ?_))
  refine TL.nil ?_
  refine TQ.then_ ?_
  refine TC.seq ?_
  refine TC.seq ?_
  refine TC.region ?_
  refine TL.cons (TO.val rfl rfl rfl (Val.move rfl) ?_)
  refine TL.cons (TO.val rfl rfl rfl (Val.move rfl) ?_)
  refine TL.cons (TO.val rfl rfl rfl (Val.cmp rfl rfl run_eql) ?_)
  refine TL.nil ?_
  refine TQ.then_ ?_
  refine TC.cond rfl (fun hc => ?_) (fun hc => ?_)
  · have hc := of_decide_eq_true hc
    subst hc
    have hr : a0 = r := by rw [← Option.some.inj h, List.take_append_drop]
    subst hr
    refine TC.seq ?_
    refine TC.region ?_
    refine TL.cons (TO.val rfl rfl rfl (Val.move rfl) ?_)
    refine TL.cons (TO.val rfl rfl rfl (Val.assign rfl) ?_)
    refine TL.nil ?_
    refine TQ.then_ ?_
    refine TC.ret ?_
    refine TQ.thenR ?_
    exact TQ.done (Ls := [Row k30 30 (.slice A1 a0.length c2) a0]) (.inl rfl) [0] 1 Try.results38 (.tmp rfl .nil) rfl (Gd.le.refl _) rfl rfl rfl ⟨rfl, _, _, rfl, rfl⟩
  · have h := Option.some.inj h
    subst h
    have hlen : (a0.take a1.toNat ++ a0.drop a2.toNat).length = a1.toNat + (a0.length - a2.toNat) := by rw [List.length_append, List.length_take, List.length_drop]; omega
    refine TC.skip ?_
    refine TQ.then_ ?_
    refine TC.seq ?_
    refine TC.region ?_
    refine TL.cons (TO.val rfl rfl rfl (Val.move rfl) ?_)
    refine TL.cons (TO.val rfl rfl rfl (Val.len Try.underlying26 rfl) ?_)
    refine TL.cons (TO.val rfl rfl rfl (Val.assign rfl) ?_)
    refine TL.nil ?_
    refine TQ.then_ ?_
    refine TC.seq ?_
    refine TC.regionAny [6, 7] mixed ?_
    refine TA.take 0 rfl (by kernel_rfl) rfl (PQ.then_ PQ.body) rfl (Val.move rfl) (fun W hO => hO) ?_
    refine TA.take 1 rfl (by kernel_rfl) rfl (PQ.then_ PQ.body) rfl (Val.move rfl) (fun W hO => hO) ?_
    refine TA.take 2 rfl (by kernel_rfl) rfl (PQ.then_ PQ.body) rfl (Val.cutC (l := 0) Try.underlying26 sz30 rfl rfl rfl (by omega) h0 (by omega)) (fun W hO => hO) ?_
    refine TA.take 3 rfl (by kernel_rfl) rfl (PQ.then_ PQ.body) rfl (Val.move rfl) (fun W hO => hO) ?_
    refine TA.take 4 rfl (by kernel_rfl) rfl (PQ.then_ PQ.body) rfl (Val.move rfl) (fun W hO => hO) ?_
    refine TA.take 5 rfl (by kernel_rfl) rfl (PQ.then_ PQ.body) rfl (Val.cutC Try.underlying26 sz30 rfl rfl rfl (by omega) h2 (by omega)) (fun W hO => hO) ?_
    refine TA.eff 6 rfl (by kernel_rfl) rfl (TL.cutAppend k30 (i := a1.toNat) (j := a2.toNat) (m := a0.length - a2.toNat) rfl rfl Try.underlying26 sz30 (Nat.le_of_ble_eq_true rfl) rfl rfl rfl (by omega) (by omega) rfl ?_)
    refine TA.last rfl ?_
    refine TA.eff 7 rfl (by kernel_rfl) rfl (TO.val rfl rfl rfl (Val.assign rfl) ?_)
    refine TA.last rfl ?_
    refine TA.done (by kernel_rfl) ?_
    refine TQ.then_ ?_
    refine TC.seq ?_
    refine TC.region ?_
    refine TL.cons (TO.val rfl rfl rfl (Val.move rfl) ?_)
    refine TL.cons (TO.val rfl rfl rfl (Val.move rfl) ?_)
    refine TL.cons (TO.val rfl rfl rfl (Val.len Try.underlying26 rfl) ?_)
    refine TL.cons (TO.val rfl rfl rfl (Val.move rfl) ?_)
    refine TL.cons (TO.val rfl rfl rfl (Val.cutC Try.underlying26 sz30 rfl rfl rfl (by omega) (by omega) (by omega)) ?_)
    refine TL.cons (TL.clearTail k30 rfl Try.underlying26 zs30 rfl rfl (Nat.le_of_ble_eq_true rfl) rfl (by omega) (by omega) ?_)
    refine TL.nil ?_
    refine TQ.then_ ?_
    refine TC.seq ?_
    refine TC.region ?_
    refine TL.cons (TO.val rfl rfl rfl (Val.move rfl) ?_)
    refine TL.cons (TO.val rfl rfl rfl (Val.assign rfl) ?_)
    refine TL.nil ?_
    refine TQ.then_ ?_
    refine TC.ret ?_
    exact TQ.done (Ls := [_]) (.inl rfl) [0] 1 Try.results38 (.tmp rfl .nil) rfl (Gd.le.refl _) rfl rfl rfl ⟨rfl, _, _, rfl, rfl⟩
end Go.Proofs.Ytmacdhkfgoahcaa.Sx
set_option linter.unusedVariables false
set_option linter.unusedSimpArgs false
set_option maxRecDepth 100000
set_option maxHeartbeats 4000000
namespace Go.Proofs.Ytmacdhkfgoahcaa.Sx
open Go Go.RowKit Go.Proofs.YtmacdhkfgoahcaaW.PrintWords Go.Proofs.Ytmacdhkfgoahcaa.Q
def deadstore_Block.l1 (a0 : S28) : Nat → (List S30) → Option S28
  | 0, _ => none
  | n498 + 1, l387 => (deadstore_Dead.f (⟨l387, a0.f1⟩ : S28)).bind fun (y558 : (List Int)) => (if (y558.length : Int) = 0 then some (⟨l387, a0.f1⟩ : S28) else (at? y558 0).bind fun y591 => (slices_Delete_api_Op_api_Op.f l387 y591 (IntKind.i64.wrap (y591 + 1))).bind fun (y600 : (List S30)) => deadstore_Block.l1 a0 n498 y600)
def deadstore_Block.l0 (a0 : S28) : Nat → Int → (List S30) → Option ((List S30))
  | 0, _, _ => none
  | n169 + 1, x111, l112 => (if x111 < (a0.f0.length : Int) then (at? a0.f0 x111).bind fun y630 => (slices_Clone_int_int.f y630.f5).bind fun (y644 : (List Int)) => (if l112.length < 2199023255552 then deadstore_Block.l0 a0 n169 (IntKind.i64.wrap (x111 + 1)) (l112 ++ [(⟨y630.f0, y630.f1, y630.f2, y630.f3, y630.f4, y644⟩ : S30)]) else none) else some l112)
def deadstore_Block.f (a0 : S28) : Option S28 := (deadstore_Block.l0 a0 (a0.f0.length + 1) 0 []).bind fun (l164 : (List S30)) => (deadstore_Block.l1 a0 (a0.f0.length + 1) l164).bind fun q_ => some q_
def deadstore_Block.post (G : Gd) (r : S28) (v : Value) (G' : Gd) (Lr : List Ch) : Prop := G = G' ∧ ∃ (A_1 : Option Addr) (c_1 : Nat), v = .agg #[.slice A_1 r.f0.length c_1, .int .i64 r.f1.f0, .int .i64 r.f1.f1, .int .i64 r.f1.f2, .int .i64 r.f1.f3] ∧ Lr = [Row k30 30 (.slice A_1 r.f0.length c_1) r.f0]
theorem deadstore_Block.calls {G : Gd} {r : S28} {a0 : S28} {A1 : Option Addr} {c2 : Nat} (hr3 : Rd G k30 A1 a0.f0) (hl4 : a0.f0.length ≤ c2) (h : deadstore_Block.f a0 = some r) : Fn Try.prog 11 G [] [.agg #[.slice A1 a0.f0.length c2, .int .i64 a0.f1.f0, .int .i64 a0.f1.f1, .int .i64 a0.f1.f2, .int .i64 a0.f1.f3]] (deadstore_Block.post G r) := by
  refine Fn.intro Try.func11 rfl Try.ntmps11 rfl (Nat.le_of_ble_eq_true rfl) (fun L => ?_)
  unfold deadstore_Block.f at h
  refine TC.seq ?_
  refine TC.region ?_
  refine TL.cons (TL.box (cs := [.slice A1 a0.f0.length c2, .int .i64 a0.f1.f0, .int .i64 a0.f1.f1, .int .i64 a0.f1.f2, .int .i64 a0.f1.f3]) rfl rfl rfl rfl (fun b5 => ?_))
  refine TL.cons (TL.alloc (cs := [.slice none 0 0, .int .i64 0, .int .i64 0, .int .i64 0, .int .i64 0]) rfl rfl zr28 rfl (fun b6 => ?_))
  refine TL.nil ?_
  refine TQ.then_ ?_
  refine TC.seq ?_
  refine TC.region ?_
  refine TL.cons (TO.val rfl rfl rfl (Val.fieldAddrB Try.underlying28 rfl sz25 rfl rfl rfl) ?_)
  refine TL.cons (TO.val rfl rfl rfl (Val.loadsB 1 (cs := [.int .i64 a0.f1.f0, .int .i64 a0.f1.f1, .int .i64 a0.f1.f2, .int .i64 a0.f1.f3]) agg25 sz25 rfl rfl rfl rfl) ?_)
  refine TL.cons (TO.val rfl rfl rfl (Val.build (cs := [.slice none 0 0, .int .i64 a0.f1.f0, .int .i64 a0.f1.f1, .int .i64 a0.f1.f2, .int .i64 a0.f1.f3]) (is := [1]) (xs := [.tmp 8]) Try.underlying28 zr28 bld28 rfl rfl rfl rfl) ?_)
  refine TL.cons (TL.alloc (cs := [.slice none 0 0, .int .i64 0, .int .i64 0, .int .i64 0, .int .i64 0]) rfl rfl zr28 rfl (fun b7 => ?_))
  refine TL.cons (TL.store 0 (ds := [.slice none 0 0, .int .i64 a0.f1.f0, .int .i64 a0.f1.f1, .int .i64 a0.f1.f2, .int .i64 a0.f1.f3]) (cs' := [.slice none 0 0, .int .i64 a0.f1.f0, .int .i64 a0.f1.f1, .int .i64 a0.f1.f2, .int .i64 a0.f1.f3]) (L' := (Blk b7 [.slice none 0 0, .int .i64 a0.f1.f0, .int .i64 a0.f1.f1, .int .i64 a0.f1.f2, .int .i64 a0.f1.f3] 28 :: Blk b6 [.slice none 0 0, .int .i64 0, .int .i64 0, .int .i64 0, .int .i64 0] 28 :: Blk b5 [.slice A1 a0.f0.length c2, .int .i64 a0.f1.f0, .int .i64 a0.f1.f1, .int .i64 a0.f1.f2, .int .i64 a0.f1.f3] 28 :: L)) rfl sz28 rfl rfl rfl rfl rfl (Nat.le_of_ble_eq_true rfl) rfl rfl ?_)
  refine TL.nil ?_
  refine TQ.then_ ?_
  refine TC.seq ?_
  refine TC.seq ?_
  refine TC.region ?_
  refine TL.cons (TO.val rfl rfl rfl (Val.fieldAddrB Try.underlying28 rfl sz26 rfl rfl rfl) ?_)
  refine TL.cons (TO.val rfl rfl rfl (Val.loadB 2 agg26 rfl rfl rfl) ?_)
  refine TL.cons (TO.val rfl rfl rfl (Val.len Try.underlying26 rfl) ?_)
  refine TL.cons (TO.val rfl rfl rfl (Val.move rfl) ?_)
  refine TL.nil ?_
  refine TQ.then_ ?_
  obtain ⟨o168, ho168, ko168⟩ := bind_no h
  clear h
  refine TC.tail (fun a W => ∃ (l164 : (List S30)) (A165 : Option Addr) (c166 : Nat), l164 = o168 ∧ Fr 45 a [(2, .pointer (some ⟨b6, 0, none⟩)), (3, .pointer (some ⟨b7, 0, none⟩))] ∧ Own G (Blk b6 [.slice none 0 0, .int .i64 0, .int .i64 0, .int .i64 0, .int .i64 0] 28 :: Blk b7 [.slice A165 l164.length c166, .int .i64 a0.f1.f0, .int .i64 a0.f1.f1, .int .i64 a0.f1.f2, .int .i64 a0.f1.f3] 28 :: Row k30 30 (.slice A165 l164.length c166) l164 :: L) W) ?_ ?_
  · rintro a W ⟨l164, A165, c166, rfl, hF, hO⟩
    have h := ko168
    clear ko168 ho168
    refine TQ.use ?_ hF hO
    clear hF hO
    refine TQ.then_ ?_
    obtain ⟨o497, ho497, ko497⟩ := bind_no h
    clear h
    refine TC.tail (fun a W => False) (fun a W h => h.elim) ?_
    · refine TC.block ?_
      intro a W hF hO
      have hS : ∃ (l387 : (List S30)) (A388 : Option Addr) (c389 : Nat), deadstore_Block.l1 a0 (a0.f0.length + 1) l387 = some o497 ∧ Fr 45 a [(2, .pointer (some ⟨b6, 0, none⟩)), (3, .pointer (some ⟨b7, 0, none⟩))] ∧ Own G (Blk b6 [.slice none 0 0, .int .i64 0, .int .i64 0, .int .i64 0, .int .i64 0] 28 :: Blk b7 [.slice A388 l387.length c389, .int .i64 a0.f1.f0, .int .i64 a0.f1.f1, .int .i64 a0.f1.f2, .int .i64 a0.f1.f3] 28 :: Row k30 30 (.slice A388 l387.length c389) l387 :: L) W := by
        exact ⟨l164, A165, c166, ho497, hF.sub ⟨rfl, rfl, trivial⟩, hO.selT (Ls := [Blk b6 [.slice none 0 0, .int .i64 0, .int .i64 0, .int .i64 0, .int .i64 0] 28, Blk b7 [.slice A165 l164.length c166, .int .i64 a0.f1.f0, .int .i64 a0.f1.f1, .int .i64 a0.f1.f2, .int .i64 a0.f1.f3] 28, Row k30 30 (.slice A165 l164.length c166) l164]) [0, 1, 2] 3 rfl rfl rfl⟩
      clear hF hO ho497
      refine TC.loop (fun n498 a W => ∃ (l387 : (List S30)) (A388 : Option Addr) (c389 : Nat), deadstore_Block.l1 a0 n498 l387 = some o497 ∧ Fr 45 a [(2, .pointer (some ⟨b6, 0, none⟩)), (3, .pointer (some ⟨b7, 0, none⟩))] ∧ Own G (Blk b6 [.slice none 0 0, .int .i64 0, .int .i64 0, .int .i64 0, .int .i64 0] 28 :: Blk b7 [.slice A388 l387.length c389, .int .i64 a0.f1.f0, .int .i64 a0.f1.f1, .int .i64 a0.f1.f2, .int .i64 a0.f1.f3] 28 :: Row k30 30 (.slice A388 l387.length c389) l387 :: L) W) ?_ ?_ hS
      · rintro a W ⟨l387, A388, c389, h, hF, hO⟩
        exact none_no h
      · clear hS
        rintro n498 a W ⟨l387, A388, c389, h, hF, hO⟩
        rw [deadstore_Block.l1] at h
        refine TC.use ?_ hF hO
        clear hF hO
        refine TC.block ?_
        refine TC.seq ?_
        refine TC.region ?_
        refine TL.cons (TO.val rfl rfl rfl (Val.loadsB 1 (cs := [.slice A388 l387.length c389, .int .i64 a0.f1.f0, .int .i64 a0.f1.f1, .int .i64 a0.f1.f2, .int .i64 a0.f1.f3]) agg28 sz28 rfl rfl rfl rfl) ?_)
        refine TK.sel (Ls := [Row k30 30 (.slice A388 l387.length c389) l387, Blk b6 [.slice none 0 0, .int .i64 0, .int .i64 0, .int .i64 0, .int .i64 0] 28, Blk b7 [.slice A388 l387.length c389, .int .i64 a0.f1.f0, .int .i64 a0.f1.f1, .int .i64 a0.f1.f2, .int .i64 a0.f1.f3] 28]) [2, 0, 1] 3 rfl rfl rfl ?_
        refine TK.share (fun G552 e553 hs554 hb555 => ?_)
        have rd556 : Rd G552 k30 A388 l387 := Rd.row hs554
        have le557 : l387.length ≤ c389 := Row.le hs554
        obtain ⟨y558, hy559, h⟩ := bind_no h
        refine TL.cons (TL.callV (Lin := []) (args := [.agg #[.slice A388 l387.length c389, .int .i64 a0.f1.f0, .int .i64 a0.f1.f1, .int .i64 a0.f1.f2, .int .i64 a0.f1.f3]]) rfl rfl rfl hb10 rfl rfl (deadstore_Dead.calls (a0 := (⟨l387, a0.f1⟩ : S28)) rd556 le557 hy559) rfl ?_)
        rintro _ _ _ _ ⟨rfl, A560, c561, rfl, rfl⟩
        refine TL.cons (TO.val rfl rfl rfl (Val.assign rfl) ?_)
        refine TL.nil ?_
        refine TQ.then_ ?_
        refine TC.seq ?_
        refine TC.seq ?_
        refine TC.region ?_
        refine TL.cons (TO.val rfl rfl rfl (Val.move rfl) ?_)
        refine TL.cons (TO.val rfl rfl rfl (Val.len Try.underlying22 rfl) ?_)
        refine TL.cons (TO.val rfl rfl rfl (Val.cmp rfl rfl run_eql) ?_)
        refine TL.nil ?_
        refine TQ.then_ ?_
        refine TC.back hb555 ?_
        refine TC.cond_p rfl h (fun hc564 h => ?_) (fun hc564 h => ?_)
        · refine TC.seq ?_
          refine TC.region ?_
          refine TL.cons (TO.val rfl rfl rfl (Val.loadsB 3 (cs := [.slice A388 l387.length c389, .int .i64 a0.f1.f0, .int .i64 a0.f1.f1, .int .i64 a0.f1.f2, .int .i64 a0.f1.f3]) agg28 sz28 rfl rfl rfl rfl) ?_)
          refine TL.cons (TL.store 2 (ds := [.slice A388 l387.length c389, .int .i64 a0.f1.f0, .int .i64 a0.f1.f1, .int .i64 a0.f1.f2, .int .i64 a0.f1.f3]) (cs' := [.slice A388 l387.length c389, .int .i64 a0.f1.f0, .int .i64 a0.f1.f1, .int .i64 a0.f1.f2, .int .i64 a0.f1.f3]) (L' := (Row k30 30 (.slice A388 l387.length c389) l387 :: Row (Kd.int .i64) 3 (.slice A560 y558.length c561) y558 :: Blk b6 [.slice A388 l387.length c389, .int .i64 a0.f1.f0, .int .i64 a0.f1.f1, .int .i64 a0.f1.f2, .int .i64 a0.f1.f3] 28 :: Blk b7 [.slice A388 l387.length c389, .int .i64 a0.f1.f0, .int .i64 a0.f1.f1, .int .i64 a0.f1.f2, .int .i64 a0.f1.f3] 28 :: L)) rfl sz28 rfl rfl rfl rfl rfl (Nat.le_of_ble_eq_true rfl) rfl rfl ?_)
          refine TL.nil ?_
          refine TQ.then_ ?_
          refine TC.ret ?_
          refine TQ.thenR ?_
          refine TQ.inBR ?_
          refine TQ.thenR ?_
          refine TQ.inBR ?_
          refine TQ.thenR ?_
          obtain rfl := Option.some.inj h
          have h := ko497
          obtain rfl := Option.some.inj h
          exact TQ.done (Ls := [Row k30 30 (.slice A388 l387.length c389) l387]) (.inl rfl) [0] 4 Try.results11 (.cells 2 rfl rfl agg28 sz28 .nil) rfl (Gd.le.refl _) rfl rfl rfl ⟨rfl, A388, c389, rfl, rfl⟩
        · refine TC.skip ?_
          refine TQ.then_ ?_
          refine TC.sel (Ls := [Row (Kd.int .i64) 3 (.slice A560 y558.length c561) y558, Row k30 30 (.slice A388 l387.length c389) l387, Blk b6 [.slice none 0 0, .int .i64 0, .int .i64 0, .int .i64 0, .int .i64 0] 28, Blk b7 [.slice A388 l387.length c389, .int .i64 a0.f1.f0, .int .i64 a0.f1.f1, .int .i64 a0.f1.f2, .int .i64 a0.f1.f3] 28]) [1, 0, 2, 3] 4 rfl rfl rfl ?_
          refine TC.share (fun G585 e586 hs587 hb588 => ?_)
          have rd589 : Rd G585 (Kd.int .i64) A560 y558 := Rd.row hs587
          have le590 : y558.length ≤ c561 := Row.le hs587
          refine TC.regionAnyS (L0 := (Blk b6 [.slice none 0 0, .int .i64 0, .int .i64 0, .int .i64 0, .int .i64 0] 28 :: Blk b7 [.slice A388 l387.length c389, .int .i64 a0.f1.f0, .int .i64 a0.f1.f1, .int .i64 a0.f1.f2, .int .i64 a0.f1.f3] 28 :: L)) [9, 10, 11] mixed ?_
          refine TA.take 0 rfl (by kernel_rfl) rfl (PQ.inB (PQ.then_ (PQ.inB (PQ.then_ PQ.body)))) rfl (Val.fieldAddrB Try.underlying28 rfl sz26 rfl rfl rfl) (fun W hO => hO.selT (Ls := [Blk b6 [.slice none 0 0, .int .i64 0, .int .i64 0, .int .i64 0, .int .i64 0] 28, Blk b7 [.slice A388 l387.length c389, .int .i64 a0.f1.f0, .int .i64 a0.f1.f1, .int .i64 a0.f1.f2, .int .i64 a0.f1.f3] 28]) [1, 2] 3 rfl rfl rfl) ?_
          refine TA.take 1 rfl (by kernel_rfl) rfl (PQ.inB (PQ.then_ (PQ.inB (PQ.then_ PQ.body)))) rfl (Val.loadB 1 agg26 rfl rfl rfl) (fun W hO => hO.selT (Ls := [Blk b6 [.slice none 0 0, .int .i64 0, .int .i64 0, .int .i64 0, .int .i64 0] 28, Blk b7 [.slice A388 l387.length c389, .int .i64 a0.f1.f0, .int .i64 a0.f1.f1, .int .i64 a0.f1.f2, .int .i64 a0.f1.f3] 28]) [1, 2] 3 rfl rfl rfl) ?_
          refine TA.take 2 rfl (by kernel_rfl) rfl (PQ.inB (PQ.then_ (PQ.inB (PQ.then_ PQ.body)))) rfl (Val.move rfl) (fun W hO => hO.selT (Ls := [Blk b6 [.slice none 0 0, .int .i64 0, .int .i64 0, .int .i64 0, .int .i64 0] 28, Blk b7 [.slice A388 l387.length c389, .int .i64 a0.f1.f0, .int .i64 a0.f1.f1, .int .i64 a0.f1.f2, .int .i64 a0.f1.f3] 28]) [1, 2] 3 rfl rfl rfl) ?_
          obtain ⟨y591, hx592, h⟩ := bind_no h
          obtain ⟨ad593, cs599, hA594, hi595, hj596, hcl597, hK598⟩ := Rd.at rd589 hx592
          obtain rfl := RdK.int hK598
          refine TA.take 3 rfl (by kernel_rfl) rfl (PQ.inB (PQ.then_ (PQ.inB (PQ.then_ PQ.body)))) rfl (Val.indexAddr Try.underlying22 sz3 rfl hA594 rfl hi595 hj596) (fun W hO => hO.selT (Ls := [Blk b6 [.slice none 0 0, .int .i64 0, .int .i64 0, .int .i64 0, .int .i64 0] 28, Blk b7 [.slice A388 l387.length c389, .int .i64 a0.f1.f0, .int .i64 a0.f1.f1, .int .i64 a0.f1.f2, .int .i64 a0.f1.f3] 28]) [1, 2] 3 rfl rfl rfl) ?_
          refine TA.take 4 rfl (by kernel_rfl) rfl (PQ.inB (PQ.then_ (PQ.inB (PQ.then_ PQ.body)))) rfl (Val.loadS agg3 rfl (hcl597 0 _ rfl)) (fun W hO => hO.selT (Ls := [Blk b6 [.slice none 0 0, .int .i64 0, .int .i64 0, .int .i64 0, .int .i64 0] 28, Blk b7 [.slice A388 l387.length c389, .int .i64 a0.f1.f0, .int .i64 a0.f1.f1, .int .i64 a0.f1.f2, .int .i64 a0.f1.f3] 28]) [1, 2] 3 rfl rfl rfl) ?_
          refine TA.take 5 rfl (by kernel_rfl) rfl (PQ.inB (PQ.then_ (PQ.inB (PQ.then_ PQ.body)))) rfl (Val.move rfl) (fun W hO => hO.selT (Ls := [Blk b6 [.slice none 0 0, .int .i64 0, .int .i64 0, .int .i64 0, .int .i64 0] 28, Blk b7 [.slice A388 l387.length c389, .int .i64 a0.f1.f0, .int .i64 a0.f1.f1, .int .i64 a0.f1.f2, .int .i64 a0.f1.f3] 28]) [1, 2] 3 rfl rfl rfl) ?_
          refine TA.take 6 rfl (by kernel_rfl) rfl (PQ.inB (PQ.then_ (PQ.inB (PQ.then_ PQ.body)))) rfl (Val.indexAddr Try.underlying22 sz3 rfl hA594 rfl hi595 hj596) (fun W hO => hO.selT (Ls := [Blk b6 [.slice none 0 0, .int .i64 0, .int .i64 0, .int .i64 0, .int .i64 0] 28, Blk b7 [.slice A388 l387.length c389, .int .i64 a0.f1.f0, .int .i64 a0.f1.f1, .int .i64 a0.f1.f2, .int .i64 a0.f1.f3] 28]) [1, 2] 3 rfl rfl rfl) ?_
          refine TA.take 7 rfl (by kernel_rfl) rfl (PQ.inB (PQ.then_ (PQ.inB (PQ.then_ PQ.body)))) rfl (Val.loadS agg3 rfl (hcl597 0 _ rfl)) (fun W hO => hO.selT (Ls := [Blk b6 [.slice none 0 0, .int .i64 0, .int .i64 0, .int .i64 0, .int .i64 0] 28, Blk b7 [.slice A388 l387.length c389, .int .i64 a0.f1.f0, .int .i64 a0.f1.f1, .int .i64 a0.f1.f2, .int .i64 a0.f1.f3] 28]) [1, 2] 3 rfl rfl rfl) ?_
          refine TA.take 8 rfl (by kernel_rfl) rfl (PQ.inB (PQ.then_ (PQ.inB (PQ.then_ PQ.body)))) rfl (Val.cmp rfl rfl run_add) (fun W hO => hO.selT (Ls := [Blk b6 [.slice none 0 0, .int .i64 0, .int .i64 0, .int .i64 0, .int .i64 0] 28, Blk b7 [.slice A388 l387.length c389, .int .i64 a0.f1.f0, .int .i64 a0.f1.f1, .int .i64 a0.f1.f2, .int .i64 a0.f1.f3] 28]) [1, 2] 3 rfl rfl rfl) ?_
          obtain ⟨y600, hy601, h⟩ := bind_no h
          refine TA.eff 9 rfl (by kernel_rfl) rfl (TL.callV (Lin := [Row k30 30 (.slice A388 l387.length c389) l387]) (args := [.slice A388 l387.length c389, .int .i64 y591, .int .i64 (IntKind.i64.wrap (y591 + 1))]) rfl rfl rfl hb38 rfl rfl (slices_Delete_api_Op_api_Op.calls (a0 := l387) (a1 := y591) (a2 := IntKind.i64.wrap (y591 + 1)) hy601) rfl ?_)
          rintro _ _ _ _ ⟨rfl, A602, c603, rfl, rfl⟩
          refine TA.last rfl ?_
          refine TA.eff 10 rfl (by kernel_rfl) rfl (TO.val rfl rfl rfl (Val.fieldAddrB Try.underlying28 rfl sz26 rfl rfl rfl) ?_)
          refine TA.last rfl ?_
          refine TA.eff 11 rfl (by kernel_rfl) rfl (TL.store 2 (ds := [.slice A602 y600.length c603]) (cs' := [.slice A602 y600.length c603, .int .i64 a0.f1.f0, .int .i64 a0.f1.f1, .int .i64 a0.f1.f2, .int .i64 a0.f1.f3]) (L' := (Row k30 30 (.slice A602 y600.length c603) y600 :: Blk b6 [.slice none 0 0, .int .i64 0, .int .i64 0, .int .i64 0, .int .i64 0] 28 :: Blk b7 [.slice A602 y600.length c603, .int .i64 a0.f1.f0, .int .i64 a0.f1.f1, .int .i64 a0.f1.f2, .int .i64 a0.f1.f3] 28 :: L)) rfl sz26 rfl rfl rfl rfl rfl (Nat.le_of_ble_eq_true rfl) rfl rfl ?_)
          refine TA.last rfl ?_
          refine TA.done (by kernel_rfl) ?_
          refine TQ.inB ?_
          refine TQ.back hb588 ?_
          exact fun a W hF hO => ⟨y600, A602, c603, h, hF.sub ⟨rfl, rfl, trivial⟩, hO.selT (Ls := [Blk b6 [.slice none 0 0, .int .i64 0, .int .i64 0, .int .i64 0, .int .i64 0] 28, Blk b7 [.slice A602 y600.length c603, .int .i64 a0.f1.f0, .int .i64 a0.f1.f1, .int .i64 a0.f1.f2, .int .i64 a0.f1.f3] 28, Row k30 30 (.slice A602 y600.length c603) y600]) [2, 3, 1] 4 rfl rfl rfl⟩
  · refine TC.block ?_
    intro a W hF hO
    have hS : ∃ (x111 : Int) (l112 : (List S30)) (A113 : Option Addr) (c114 : Nat), deadstore_Block.l0 a0 (a0.f0.length + 1) x111 l112 = some o168 ∧ Fr 45 a [(2, .pointer (some ⟨b6, 0, none⟩)), (3, .pointer (some ⟨b7, 0, none⟩)), (11, .slice A1 a0.f0.length c2), (12, .int .i64 (a0.f0.length : Int)), (13, .int .i64 x111)] ∧ Own G (Blk b6 [.slice none 0 0, .int .i64 0, .int .i64 0, .int .i64 0, .int .i64 0] 28 :: Blk b7 [.slice A113 l112.length c114, .int .i64 a0.f1.f0, .int .i64 a0.f1.f1, .int .i64 a0.f1.f2, .int .i64 a0.f1.f3] 28 :: Row k30 30 (.slice A113 l112.length c114) l112 :: L) W := by
      exact ⟨0, [], none, 0, ho168, hF.sub ⟨rfl, rfl, rfl, rfl, rfl, trivial⟩, (Own.nilRow k30 30 hO).selT (Ls := [Blk b6 [.slice none 0 0, .int .i64 0, .int .i64 0, .int .i64 0, .int .i64 0] 28, Blk b7 [.slice none ([] : List S30).length 0, .int .i64 a0.f1.f0, .int .i64 a0.f1.f1, .int .i64 a0.f1.f2, .int .i64 a0.f1.f3] 28, Row k30 30 (.slice none ([] : List S30).length 0) ([] : List S30)]) [2, 1, 0] 4 rfl rfl rfl⟩
    clear hF hO ho168 ko168
    refine TC.loop (fun n169 a W => ∃ (x111 : Int) (l112 : (List S30)) (A113 : Option Addr) (c114 : Nat), deadstore_Block.l0 a0 n169 x111 l112 = some o168 ∧ Fr 45 a [(2, .pointer (some ⟨b6, 0, none⟩)), (3, .pointer (some ⟨b7, 0, none⟩)), (11, .slice A1 a0.f0.length c2), (12, .int .i64 (a0.f0.length : Int)), (13, .int .i64 x111)] ∧ Own G (Blk b6 [.slice none 0 0, .int .i64 0, .int .i64 0, .int .i64 0, .int .i64 0] 28 :: Blk b7 [.slice A113 l112.length c114, .int .i64 a0.f1.f0, .int .i64 a0.f1.f1, .int .i64 a0.f1.f2, .int .i64 a0.f1.f3] 28 :: Row k30 30 (.slice A113 l112.length c114) l112 :: L) W) ?_ ?_ hS
    · rintro a W ⟨x111, l112, A113, c114, h, hF, hO⟩
      exact none_no h
    · clear hS
      rintro n169 a W ⟨x111, l112, A113, c114, h, hF, hO⟩
      rw [deadstore_Block.l0] at h
      refine TC.use ?_ hF hO
      clear hF hO
      refine TC.seq ?_
      refine TC.region ?_
      refine TL.cons (TO.val rfl rfl rfl (Val.cmp rfl rfl run_lss) ?_)
      refine TL.nil ?_
      refine TQ.then_ ?_
      refine TC.seq ?_
      refine TC.cond_p rfl h (fun hc606 h => ?_) (fun hc606 h => ?_)
      · refine TC.skip ?_
        refine TQ.then_ ?_
        refine TC.seq ?_
        refine TC.block ?_
        refine TC.seq ?_
        refine TC.region ?_
        obtain ⟨y630, hx631, h⟩ := bind_no h
        obtain ⟨ad632, cs638, hA633, hi634, hj635, hcl636, hK637⟩ := Rd.at hr3 hx631
        obtain ⟨A639, c640, rfl, hr641, hl642⟩ := k30_openR hK637
        refine TL.cons (TO.val rfl rfl rfl (Val.indexAddr Try.underlying26 sz30 rfl hA633 rfl hi634 hj635) ?_)
        refine TL.cons (TO.val rfl rfl rfl (Val.loadsS (cs := [.int .i64 y630.f0, .int .i64 y630.f1, .int .i64 y630.f2, .int .i64 y630.f3, .int .i64 y630.f4, .slice A639 y630.f5.length c640]) agg30 sz30 rfl rfl (Cl.sub (off := 0) (n := 6) hcl636 rfl)) ?_)
        refine TL.cons (TL.alloc (cs := [.int .i64 0, .int .i64 0, .int .i64 0, .int .i64 0, .int .i64 0, .slice none 0 0]) rfl rfl zr30 rfl (fun b643 => ?_))
        refine TL.cons (TL.store 0 (ds := [.int .i64 y630.f0, .int .i64 y630.f1, .int .i64 y630.f2, .int .i64 y630.f3, .int .i64 y630.f4, .slice A639 y630.f5.length c640]) (cs' := [.int .i64 y630.f0, .int .i64 y630.f1, .int .i64 y630.f2, .int .i64 y630.f3, .int .i64 y630.f4, .slice A639 y630.f5.length c640]) (L' := (Blk b643 [.int .i64 y630.f0, .int .i64 y630.f1, .int .i64 y630.f2, .int .i64 y630.f3, .int .i64 y630.f4, .slice A639 y630.f5.length c640] 30 :: Blk b6 [.slice none 0 0, .int .i64 0, .int .i64 0, .int .i64 0, .int .i64 0] 28 :: Blk b7 [.slice A113 l112.length c114, .int .i64 a0.f1.f0, .int .i64 a0.f1.f1, .int .i64 a0.f1.f2, .int .i64 a0.f1.f3] 28 :: Row k30 30 (.slice A113 l112.length c114) l112 :: L)) rfl sz30 rfl rfl rfl rfl rfl (Nat.le_of_ble_eq_true rfl) rfl rfl ?_)
        refine TL.nil ?_
        refine TQ.then_ ?_
        refine TC.seq ?_
        refine TC.region ?_
        refine TL.cons (TO.val rfl rfl rfl (Val.fieldAddrB Try.underlying30 rfl sz22 rfl rfl rfl) ?_)
        refine TL.cons (TO.val rfl rfl rfl (Val.loadB 0 agg22 rfl rfl rfl) ?_)
        obtain ⟨y644, hy645, h⟩ := bind_no h
        refine TL.cons (TL.callV (Lin := []) (args := [.slice A639 y630.f5.length c640]) rfl rfl rfl hb37 rfl rfl (slices_Clone_int_int.calls (a0 := y630.f5) hr641 hl642 hy645) rfl ?_)
        rintro _ _ _ _ ⟨rfl, A646, c647, rfl, rfl⟩
        refine TL.cons (TO.val rfl rfl rfl (Val.fieldAddrB Try.underlying30 rfl sz22 rfl rfl rfl) ?_)
        refine TL.cons (TL.store 1 (ds := [.slice A646 y644.length c647]) (cs' := [.int .i64 y630.f0, .int .i64 y630.f1, .int .i64 y630.f2, .int .i64 y630.f3, .int .i64 y630.f4, .slice A646 y644.length c647]) (L' := (Row (Kd.int .i64) 3 (.slice A646 y644.length c647) y644 :: Blk b643 [.int .i64 y630.f0, .int .i64 y630.f1, .int .i64 y630.f2, .int .i64 y630.f3, .int .i64 y630.f4, .slice A646 y644.length c647] 30 :: Blk b6 [.slice none 0 0, .int .i64 0, .int .i64 0, .int .i64 0, .int .i64 0] 28 :: Blk b7 [.slice A113 l112.length c114, .int .i64 a0.f1.f0, .int .i64 a0.f1.f1, .int .i64 a0.f1.f2, .int .i64 a0.f1.f3] 28 :: Row k30 30 (.slice A113 l112.length c114) l112 :: L)) rfl sz22 rfl rfl rfl rfl rfl (Nat.le_of_ble_eq_true rfl) rfl rfl ?_)
        refine TL.nil ?_
        refine TQ.then_ ?_
        refine TC.region ?_
        refine TL.cons (TO.val rfl rfl rfl (Val.fieldAddrB Try.underlying28 rfl sz26 rfl rfl rfl) ?_)
        refine TL.cons (TO.val rfl rfl rfl (Val.loadB 3 agg26 rfl rfl rfl) ?_)
        refine TL.cons (TO.val rfl rfl rfl (Val.loadsB 1 (cs := [.int .i64 y630.f0, .int .i64 y630.f1, .int .i64 y630.f2, .int .i64 y630.f3, .int .i64 y630.f4, .slice A646 y644.length c647]) agg30 sz30 rfl rfl rfl rfl) ?_)
        refine TL.cons (TL.buildSlice (xs := [.tmp 23]) (vs := [.agg #[.int .i64 y630.f0, .int .i64 y630.f1, .int .i64 y630.f2, .int .i64 y630.f3, .int .i64 y630.f4, .slice A646 y644.length c647]]) (cs := [.int .i64 y630.f0, .int .i64 y630.f1, .int .i64 y630.f2, .int .i64 y630.f3, .int .i64 y630.f4, .slice A646 y644.length c647]) rfl rfl Try.underlying26 zs30 rfl rfl rfl rfl rfl rfl rfl rfl (fun b649 => ?_))
        refine TK.sel (Ls := [Row (Kd.int .i64) 3 (.slice A646 y644.length c647) y644, Blk b649 [.int .i64 y630.f0, .int .i64 y630.f1, .int .i64 y630.f2, .int .i64 y630.f3, .int .i64 y630.f4, .slice A646 y644.length c647] 30, Blk b643 [.int .i64 y630.f0, .int .i64 y630.f1, .int .i64 y630.f2, .int .i64 y630.f3, .int .i64 y630.f4, .slice A646 y644.length c647] 30, Blk b6 [.slice none 0 0, .int .i64 0, .int .i64 0, .int .i64 0, .int .i64 0] 28, Blk b7 [.slice A113 l112.length c114, .int .i64 a0.f1.f0, .int .i64 a0.f1.f1, .int .i64 a0.f1.f2, .int .i64 a0.f1.f3] 28, Row k30 30 (.slice A113 l112.length c114) l112]) [1, 0, 2, 3, 4, 5] 6 rfl rfl rfl ?_
        refine TK.conv (ch' := El k30 (⟨y630.f0, y630.f1, y630.f2, y630.f3, y630.f4, y644⟩ : S30) [.int .i64 y630.f0, .int .i64 y630.f1, .int .i64 y630.f2, .int .i64 y630.f3, .int .i64 y630.f4, .slice A646 y644.length c647]) (fun B W F hh => k30_mkM W B F (⟨y630.f0, y630.f1, y630.f2, y630.f3, y630.f4, y644⟩ : S30) hh) ?_
        refine TK.sel (Ls := [Row k30 30 (.slice A113 l112.length c114) l112, El k30 (⟨y630.f0, y630.f1, y630.f2, y630.f3, y630.f4, y644⟩ : S30) [.int .i64 y630.f0, .int .i64 y630.f1, .int .i64 y630.f2, .int .i64 y630.f3, .int .i64 y630.f4, .slice A646 y644.length c647], Blk b649 [.int .i64 y630.f0, .int .i64 y630.f1, .int .i64 y630.f2, .int .i64 y630.f3, .int .i64 y630.f4, .slice A646 y644.length c647] 30, Blk b643 [.int .i64 y630.f0, .int .i64 y630.f1, .int .i64 y630.f2, .int .i64 y630.f3, .int .i64 y630.f4, .slice A646 y644.length c647] 30, Blk b6 [.slice none 0 0, .int .i64 0, .int .i64 0, .int .i64 0, .int .i64 0] 28, Blk b7 [.slice A113 l112.length c114, .int .i64 a0.f1.f0, .int .i64 a0.f1.f1, .int .i64 a0.f1.f2, .int .i64 a0.f1.f3] 28]) [5, 0, 1, 2, 3, 4] 6 rfl rfl rfl ?_
        obtain ⟨ha650, h⟩ := ite_no h
        refine TL.cons (TL.append k30 rfl rfl Try.underlying26 inf30 rfl (Nat.le_of_ble_eq_true rfl) (Nat.le_of_ble_eq_true rfl) rfl rfl (by omega) (fun A651 c652 => ?_))
        refine TL.cons (TO.val rfl rfl rfl (Val.fieldAddrB Try.underlying28 rfl sz26 rfl rfl rfl) ?_)
        refine TL.cons (TL.store 3 (ds := [.slice A651 (l112 ++ [(⟨y630.f0, y630.f1, y630.f2, y630.f3, y630.f4, y644⟩ : S30)]).length c652]) (cs' := [.slice A651 (l112 ++ [(⟨y630.f0, y630.f1, y630.f2, y630.f3, y630.f4, y644⟩ : S30)]).length c652, .int .i64 a0.f1.f0, .int .i64 a0.f1.f1, .int .i64 a0.f1.f2, .int .i64 a0.f1.f3]) (L' := (Row k30 30 (.slice A651 (l112 ++ [(⟨y630.f0, y630.f1, y630.f2, y630.f3, y630.f4, y644⟩ : S30)]).length c652) (l112 ++ [(⟨y630.f0, y630.f1, y630.f2, y630.f3, y630.f4, y644⟩ : S30)]) :: Blk b643 [.int .i64 y630.f0, .int .i64 y630.f1, .int .i64 y630.f2, .int .i64 y630.f3, .int .i64 y630.f4, .slice A646 y644.length c647] 30 :: Blk b6 [.slice none 0 0, .int .i64 0, .int .i64 0, .int .i64 0, .int .i64 0] 28 :: Blk b7 [.slice A651 (l112 ++ [(⟨y630.f0, y630.f1, y630.f2, y630.f3, y630.f4, y644⟩ : S30)]).length c652, .int .i64 a0.f1.f0, .int .i64 a0.f1.f1, .int .i64 a0.f1.f2, .int .i64 a0.f1.f3] 28 :: L)) rfl sz26 rfl rfl rfl rfl rfl (Nat.le_of_ble_eq_true rfl) rfl rfl ?_)
        refine TL.nil ?_
        refine TQ.inB ?_
        refine TQ.then_ ?_
        refine TC.region ?_
        refine TL.cons (TO.val rfl rfl rfl (Val.cmp rfl rfl run_add) ?_)
        refine TL.cons (TO.val rfl rfl rfl (Val.move rfl) ?_)
        refine TL.nil ?_
        exact fun a W hF hO => ⟨IntKind.i64.wrap (x111 + 1), (l112 ++ [(⟨y630.f0, y630.f1, y630.f2, y630.f3, y630.f4, y644⟩ : S30)]), A651, c652, h, hF.sub ⟨rfl, rfl, rfl, rfl, rfl, trivial⟩, hO.selT (Ls := [Blk b6 [.slice none 0 0, .int .i64 0, .int .i64 0, .int .i64 0, .int .i64 0] 28, Blk b7 [.slice A651 (l112 ++ [(⟨y630.f0, y630.f1, y630.f2, y630.f3, y630.f4, y644⟩ : S30)]).length c652, .int .i64 a0.f1.f0, .int .i64 a0.f1.f1, .int .i64 a0.f1.f2, .int .i64 a0.f1.f3] 28, Row k30 30 (.slice A651 (l112 ++ [(⟨y630.f0, y630.f1, y630.f2, y630.f3, y630.f4, y644⟩ : S30)]).length c652) (l112 ++ [(⟨y630.f0, y630.f1, y630.f2, y630.f3, y630.f4, y644⟩ : S30)])]) [2, 3, 0] 4 rfl rfl rfl⟩
      · refine TC.exit ?_
        refine TQ.thenX ?_
        refine TQ.thenX ?_
        refine TQ.inBX ?_
        exact fun a W hF hO => ⟨l112, A113, c114, Option.some.inj h, hF.sub ⟨rfl, rfl, trivial⟩, hO.selT (Ls := [Blk b6 [.slice none 0 0, .int .i64 0, .int .i64 0, .int .i64 0, .int .i64 0] 28, Blk b7 [.slice A113 l112.length c114, .int .i64 a0.f1.f0, .int .i64 a0.f1.f1, .int .i64 a0.f1.f2, .int .i64 a0.f1.f3] 28, Row k30 30 (.slice A113 l112.length c114) l112]) [0, 1, 2] 3 rfl rfl rfl⟩
end Go.Proofs.Ytmacdhkfgoahcaa.Sx
set_option linter.unusedVariables false
set_option linter.unusedSimpArgs false
namespace Go.Proofs.Ytmacdhkfgoahcaa.Sx
open Go Go.RowKit Go.Proofs.YtmacdhkfgoahcaaW.PrintWords Go.Proofs.Ytmacdhkfgoahcaa.Q Go.Proofs.Ytmacdhkfgoahcaa.Fo Go.Proofs.Ytmacdhkfgoahcaa.De
theorem at_nat {α : Type} (xs : List α) (k : Nat) : at? xs (k : Int) = xs[k]? := by
  unfold at?; rw [if_pos (by omega), Int.toNat_natCast]
theorem wrap_small {n : Int} (h0 : -9223372036854775808 ≤ n) (h1 : n ≤ 9223372036854775807) : IntKind.i64.wrap n = n := by
  rw [IntKind.wrap_i64]; omega
theorem wrap_succ {k : Nat} (h : k < 9223372036854775807) : IntKind.i64.wrap ((k : Int) + 1) = ((k + 1 : Nat) : Int) := by
  rw [wrap_small (by omega) (by omega)]; omega
/-- The state behind a row, from its end. -/
def bk : List S30 → St
  | [] => st0
  | x :: r => stepP (bk r) x
def hit (t : St) (x : S30) : Bool := t.is && (t.a == x.f2) && (t.imm == x.f4) && !(t.s x.f2)
theorem deadP_hit (t : St) (x : S30) : deadP t x = ((x.f0 == 5) && hit t x) := rfl
def dd : List S30 → List Bool
  | [] => []
  | x :: r => deadP (bk r) x :: dd r
def idx : Nat → List Bool → List Int
  | _, [] => []
  | i, true :: r => (i : Int) :: idx (i + 1) r
  | i, false :: r => idx (i + 1) r
theorem goBack_spec (xs : List S30) : ∀ k, k ≤ xs.length → (goBack xs k).1 = bk (xs.drop (xs.length - k)) ∧ (goBack xs k).2.reverse = idx (xs.length - k) (dd (xs.drop (xs.length - k)))
  | 0, _ => by simp [goBack, bk, dd, idx]
  | k + 1, hk => by
    obtain ⟨h1, h2⟩ := goBack_spec xs k (by omega)
    have hlt : xs.length - 1 - k < xs.length := by omega
    have hd : xs.drop (xs.length - (k + 1)) = xs[xs.length - 1 - k] :: xs.drop (xs.length - k) := by
      rw [show xs.length - (k + 1) = xs.length - 1 - k by omega, List.drop_eq_getElem_cons hlt, show xs.length - 1 - k + 1 = xs.length - k by omega]
    have hg : xs.getD (xs.length - 1 - k) z30 = xs[xs.length - 1 - k] := by simp [hlt]
    rw [hd]
    refine ⟨?_, ?_⟩
    · simp only [goBack, hg, h1, bk]
    · simp only [goBack, hg, h1, dd]
      rw [show xs.length - (k + 1) = xs.length - 1 - k by omega]
      cases deadP (bk (xs.drop (xs.length - k))) xs[xs.length - 1 - k]
      · simp only [Bool.false_eq_true, if_false, idx, h2]
        rw [show xs.length - 1 - k + 1 = xs.length - k by omega]
      · simp only [if_true, List.reverse_append, List.reverse_cons, List.reverse_nil, List.nil_append, List.cons_append, idx, h2]
        rw [show xs.length - 1 - k + 1 = xs.length - k by omega]
theorem deadL_idx (xs : List S30) : deadL xs = idx 0 (dd xs) := by
  have := (goBack_spec xs xs.length (Nat.le_refl _)).2
  rwa [Nat.sub_self, List.drop_zero] at this
/-- What is left. -/
def keep : List S30 → List S30
  | [] => []
  | x :: r => if deadP (bk r) x = true then keep r else x :: keep r
theorem hit_store (t : St) {x : S30} (hx : (x.f0 == 5) = true) (z : S30) : hit (stepP t x) z = ((x.f2 == z.f2) && (x.f4 == z.f4)) := by
  simp [hit, stepP, hx]
theorem hit_pure (t : St) {x : S30} (hx : (x.f0 == 5) = false) (hp : pureB x = true) (z : S30) : hit (stepP t x) z = (hit t z && !(z.f2 == setsI x)) := by
  simp only [hit, stepP, hx, hp, if_true, add, Bool.false_eq_true, if_false]
  cases t.is <;> cases (t.a == z.f2) <;> cases (t.imm == z.f4) <;> cases (t.s z.f2) <;> simp <;> rfl
theorem hit_else (t : St) {x : S30} (hx : (x.f0 == 5) = false) (hp : pureB x = false) (z : S30) : hit (stepP t x) z = false := by
  simp [hit, stepP, hx, hp]
theorem hit_step {t t' : St} (h : ∀ z, hit t z = hit t' z) (x z : S30) : hit (stepP t x) z = hit (stepP t' x) z := by
  rcases Bool.eq_false_or_eq_true (x.f0 == 5) with hx | hx
  · rw [hit_store t hx, hit_store t' hx]
  · rcases Bool.eq_false_or_eq_true (pureB x) with hp | hp
    · rw [hit_pure t hx hp, hit_pure t' hx hp, h]
    · rw [hit_else t hx hp, hit_else t' hx hp]
/-- A store that need not be is not missed. -/
theorem hit_dead {t : St} {x : S30} (h : deadP t x = true) (z : S30) : hit (stepP t x) z = hit t z := by
  rw [deadP_hit] at h
  obtain ⟨hx, hh⟩ := (Bool.and_eq_true _ _).mp h
  rw [hit_store t hx]
  simp only [hit, Bool.and_eq_true, beq_iff_eq, Bool.not_eq_true'] at hh
  obtain ⟨⟨⟨h1, h2⟩, h3⟩, h4⟩ := hh
  simp only [hit, h1, h2, h3, Bool.true_and]
  by_cases e : x.f2 = z.f2
  · rw [← e, h4]; simp
  · simp [e]
theorem hit_keep : ∀ (l : List S30) (z : S30), hit (bk (keep l)) z = hit (bk l) z
  | [], _ => rfl
  | x :: r, z => by
    unfold keep
    by_cases h : deadP (bk r) x = true
    · rw [if_pos h, hit_keep r z]; exact (hit_dead h z).symm
    · rw [if_neg h]; exact hit_step (hit_keep r) x z
theorem dead_keep (l : List S30) (x : S30) : deadP (bk (keep l)) x = deadP (bk l) x := by rw [deadP_hit, deadP_hit, hit_keep]
theorem dd_keep : ∀ (l : List S30), ∀ b ∈ dd (keep l), b = false
  | [], b, hb => by cases hb
  | x :: r, b, hb => by
    unfold keep at hb
    by_cases h : deadP (bk r) x = true
    · rw [if_pos h] at hb; exact dd_keep r b hb
    · rw [if_neg h] at hb
      rcases List.mem_cons.1 hb with rfl | hb
      · rw [dead_keep]; simpa using h
      · exact dd_keep r b hb
theorem idx_false : ∀ (bs : List Bool) (i : Nat), (∀ b ∈ bs, b = false) → idx i bs = []
  | [], _, _ => rfl
  | b :: r, i, h => by
    obtain rfl := h b (by simp)
    exact idx_false r (i + 1) (fun b hb => h b (by simp [hb]))
theorem deadL_keep (l : List S30) : deadL (keep l) = [] := by rw [deadL_idx]; exact idx_false _ _ (dd_keep l)
/-- The first that need not be. -/
theorem first_dead : ∀ (l : List S30) (i : Nat), (idx i (dd l) = [] ∧ keep l = l) ∨ ∃ j r, idx i (dd l) = ((i + j : Nat) : Int) :: r ∧ j < l.length ∧ keep (l.take j ++ l.drop (j + 1)) = keep l
  | [], i => .inl ⟨rfl, rfl⟩
  | x :: r, i => by
    by_cases h : deadP (bk r) x = true
    · refine .inr ⟨0, idx (i + 1) (dd r), by simp [dd, h, idx], by simp, ?_⟩
      simp [keep, h]
    · have hf : deadP (bk r) x = false := by simpa using h
      rcases first_dead r (i + 1) with ⟨h1, h2⟩ | ⟨j, q, h1, h2, h3⟩
      · exact .inl ⟨by simp [dd, hf, idx, h1], by simp [keep, hf, h2]⟩
      · refine .inr ⟨j + 1, q, ?_, by simpa using h2, ?_⟩
        · simp only [dd, hf, idx, h1]; congr 2; omega
        · have hb : deadP (bk (r.take j ++ r.drop (j + 1))) x = false := by
            rw [← dead_keep, h3, dead_keep]; exact hf
          simp [keep, hf, hb, h3]
end Go.Proofs.Ytmacdhkfgoahcaa.Sx
set_option linter.unusedVariables false
set_option linter.unusedSimpArgs false
set_option maxRecDepth 100000
set_option maxHeartbeats 4000000
namespace Go.Proofs.Ytmacdhkfgoahcaa.Sx
open Go Go.RowKit Go.Proofs.YtmacdhkfgoahcaaW.PrintWords Go.Proofs.Ytmacdhkfgoahcaa.Q
def deadstore_Stores.l1 (y719 : S28) : Nat → Int → Int → Option (Int)
  | 0, _, _ => none
  | n853 + 1, x811, x812 => (if x812 < (y719.f0.length : Int) then (at? y719.f0 x812).bind fun y875 => jn (fun (x890 : Int) => deadstore_Stores.l1 y719 n853 x890 (IntKind.i64.wrap (x812 + 1))) (fun j891 => (if y875.f0 = 5 then j891 (IntKind.i64.wrap (x811 + 1)) else j891 x811)) else some x811)
def deadstore_Stores.l0 (a0 : S36) : Nat → Int → Int → Option (Int)
  | 0, _, _ => none
  | n591 + 1, x394, x395 => (if x395 < (a0.f1.length : Int) then (at? a0.f1 x395).bind fun y719 => (deadstore_Stores.l1 y719 (y719.f0.length + 1) x394 0).bind fun (x851 : Int) => deadstore_Stores.l0 a0 n591 x851 (IntKind.i64.wrap (x395 + 1)) else some x394)
def deadstore_Stores.f (a0 : S36) : Option Int := (deadstore_Stores.l0 a0 (a0.f1.length + 1) 0 0).bind fun (x589 : Int) => some x589
def deadstore_Stores.post (G : Gd) (r : Int) (v : Value) (G' : Gd) (Lr : List Ch) : Prop := G = G' ∧ v = .int .i64 r ∧ Lr = []
theorem deadstore_Stores.calls {G : Gd} {r : Int} {a0 : S36} {A1 : Option Addr} {c2 : Nat} (hr3 : Rd G k28 A1 a0.f1) (hl4 : a0.f1.length ≤ c2) (h : deadstore_Stores.f a0 = some r) : Fn Try.prog 12 G [] [.agg #[.int .i64 a0.f0, .slice A1 a0.f1.length c2]] (deadstore_Stores.post G r) := by
  refine Fn.intro Try.func12 rfl Try.ntmps12 rfl (Nat.le_of_ble_eq_true rfl) (fun L => ?_)
  unfold deadstore_Stores.f at h
  refine TC.seq ?_
  refine TC.region ?_
  refine TL.cons (TL.box (cs := [.int .i64 a0.f0, .slice A1 a0.f1.length c2]) rfl rfl rfl rfl (fun b5 => ?_))
  refine TL.cons (TO.val rfl rfl rfl (Val.assign rfl) ?_)
  refine TL.nil ?_
  refine TQ.then_ ?_
  refine TC.seq ?_
  refine TC.region ?_
  refine TL.cons (TO.val rfl rfl rfl (Val.assign rfl) ?_)
  refine TL.nil ?_
  refine TQ.then_ ?_
  refine TC.seq ?_
  refine TC.seq ?_
  refine TC.region ?_
  refine TL.cons (TO.val rfl rfl rfl (Val.fieldAddrB Try.underlying36 rfl sz34 rfl rfl rfl) ?_)
  refine TL.cons (TO.val rfl rfl rfl (Val.loadB 0 agg34 rfl rfl rfl) ?_)
  refine TL.cons (TO.val rfl rfl rfl (Val.len Try.underlying34 rfl) ?_)
  refine TL.cons (TO.val rfl rfl rfl (Val.move rfl) ?_)
  refine TL.nil ?_
  refine TQ.then_ ?_
  obtain ⟨o590, ho590, ko590⟩ := bind_no h
  clear h
  refine TC.tail (fun a W => ∃ (x589 : Int), x589 = o590 ∧ Fr 30 a [(3, .int .i64 x589)] ∧ Own G (L) W) ?_ ?_
  · rintro a W ⟨x589, rfl, hF, hO⟩
    have h := ko590
    clear ko590 ho590
    refine TQ.use ?_ hF hO
    clear hF hO
    refine TQ.then_ ?_
    refine TC.seq ?_
    refine TC.region ?_
    refine TL.cons (TO.val rfl rfl rfl (Val.move rfl) ?_)
    refine TL.cons (TO.val rfl rfl rfl (Val.assign rfl) ?_)
    refine TL.nil ?_
    refine TQ.then_ ?_
    refine TC.ret ?_
    obtain rfl := Option.some.inj h
    exact TQ.done (Ls := []) (.inl rfl) [] 0 Try.results12 (.tmp rfl .nil) rfl (Gd.le.refl _) rfl rfl rfl ⟨rfl, rfl, rfl⟩
  · refine TC.block ?_
    intro a W hF hO
    have hS : ∃ (x394 : Int) (x395 : Int), deadstore_Stores.l0 a0 (a0.f1.length + 1) x394 x395 = some o590 ∧ Fr 30 a [(3, .int .i64 x394), (9, .slice A1 a0.f1.length c2), (10, .int .i64 (a0.f1.length : Int)), (11, .int .i64 x395)] ∧ Own G (L) W := by
      exact ⟨0, 0, ho590, hF.sub ⟨rfl, rfl, rfl, rfl, trivial⟩, hO.selT (Ls := []) [] 1 rfl rfl rfl⟩
    clear hF hO ho590 ko590
    refine TC.loop (fun n591 a W => ∃ (x394 : Int) (x395 : Int), deadstore_Stores.l0 a0 n591 x394 x395 = some o590 ∧ Fr 30 a [(3, .int .i64 x394), (9, .slice A1 a0.f1.length c2), (10, .int .i64 (a0.f1.length : Int)), (11, .int .i64 x395)] ∧ Own G (L) W) ?_ ?_ hS
    · rintro a W ⟨x394, x395, h, hF, hO⟩
      exact none_no h
    · clear hS
      rintro n591 a W ⟨x394, x395, h, hF, hO⟩
      rw [deadstore_Stores.l0] at h
      refine TC.use ?_ hF hO
      clear hF hO
      refine TC.seq ?_
      refine TC.region ?_
      refine TL.cons (TO.val rfl rfl rfl (Val.cmp rfl rfl run_lss) ?_)
      refine TL.nil ?_
      refine TQ.then_ ?_
      refine TC.seq ?_
      refine TC.cond_p rfl h (fun hc594 h => ?_) (fun hc594 h => ?_)
      · refine TC.skip ?_
        refine TQ.then_ ?_
        refine TC.seq ?_
        refine TC.block ?_
        refine TC.seq ?_
        refine TC.region ?_
        obtain ⟨y719, hx720, h⟩ := bind_no h
        obtain ⟨ad721, cs727, hA722, hi723, hj724, hcl725, hK726⟩ := Rd.at hr3 hx720
        obtain ⟨A728, c729, rfl, hr730, hl731⟩ := k28_openR hK726
        refine TL.cons (TO.val rfl rfl rfl (Val.indexAddr Try.underlying34 sz28 rfl hA722 rfl hi723 hj724) ?_)
        refine TL.cons (TO.val rfl rfl rfl (Val.loadsS (cs := [.slice A728 y719.f0.length c729, .int .i64 y719.f1.f0, .int .i64 y719.f1.f1, .int .i64 y719.f1.f2, .int .i64 y719.f1.f3]) agg28 sz28 rfl rfl (Cl.sub (off := 0) (n := 5) hcl725 rfl)) ?_)
        refine TL.cons (TL.alloc (cs := [.slice none 0 0, .int .i64 0, .int .i64 0, .int .i64 0, .int .i64 0]) rfl rfl zr28 rfl (fun b732 => ?_))
        refine TL.cons (TL.store 0 (ds := [.slice A728 y719.f0.length c729, .int .i64 y719.f1.f0, .int .i64 y719.f1.f1, .int .i64 y719.f1.f2, .int .i64 y719.f1.f3]) (cs' := [.slice A728 y719.f0.length c729, .int .i64 y719.f1.f0, .int .i64 y719.f1.f1, .int .i64 y719.f1.f2, .int .i64 y719.f1.f3]) (L' := (Blk b732 [.slice A728 y719.f0.length c729, .int .i64 y719.f1.f0, .int .i64 y719.f1.f1, .int .i64 y719.f1.f2, .int .i64 y719.f1.f3] 28 :: L)) rfl sz28 rfl rfl rfl rfl rfl (Nat.le_of_ble_eq_true rfl) rfl rfl ?_)
        refine TL.nil ?_
        refine TQ.then_ ?_
        refine TC.seq ?_
        refine TC.region ?_
        refine TL.cons (TO.val rfl rfl rfl (Val.fieldAddrB Try.underlying28 rfl sz26 rfl rfl rfl) ?_)
        refine TL.cons (TO.val rfl rfl rfl (Val.loadB 0 agg26 rfl rfl rfl) ?_)
        refine TL.cons (TO.val rfl rfl rfl (Val.len Try.underlying26 rfl) ?_)
        refine TL.cons (TO.val rfl rfl rfl (Val.move rfl) ?_)
        refine TL.nil ?_
        refine TQ.then_ ?_
        obtain ⟨o852, ho852, ko852⟩ := bind_no h
        clear h
        refine TC.tail (fun a W => ∃ (x851 : Int), x851 = o852 ∧ Fr 30 a [(3, .int .i64 x851), (9, .slice A1 a0.f1.length c2), (10, .int .i64 (a0.f1.length : Int)), (11, .int .i64 x395)] ∧ Own G (L) W) ?_ ?_
        · rintro a W ⟨x851, rfl, hF, hO⟩
          have h := ko852
          clear ko852 ho852
          refine TQ.use ?_ hF hO
          clear hF hO
          refine TQ.inB ?_
          refine TQ.then_ ?_
          refine TC.region ?_
          refine TL.cons (TO.val rfl rfl rfl (Val.cmp rfl rfl run_add) ?_)
          refine TL.cons (TO.val rfl rfl rfl (Val.move rfl) ?_)
          refine TL.nil ?_
          exact fun a W hF hO => ⟨x851, IntKind.i64.wrap (x395 + 1), h, hF.sub ⟨rfl, rfl, rfl, rfl, trivial⟩, hO.selT (Ls := []) [] 0 rfl rfl rfl⟩
        · refine TC.block ?_
          intro a W hF hO
          have hS : ∃ (x811 : Int) (x812 : Int), deadstore_Stores.l1 y719 (y719.f0.length + 1) x811 x812 = some o852 ∧ Fr 30 a [(3, .int .i64 x811), (9, .slice A1 a0.f1.length c2), (10, .int .i64 (a0.f1.length : Int)), (11, .int .i64 x395), (16, .slice A728 y719.f0.length c729), (17, .int .i64 (y719.f0.length : Int)), (18, .int .i64 x812)] ∧ Own G (L) W := by
            exact ⟨x394, 0, ho852, hF.sub ⟨rfl, rfl, rfl, rfl, rfl, rfl, rfl, trivial⟩, hO.selT (Ls := []) [] 1 rfl rfl rfl⟩
          clear hF hO ho852 ko852
          refine TC.loop (fun n853 a W => ∃ (x811 : Int) (x812 : Int), deadstore_Stores.l1 y719 n853 x811 x812 = some o852 ∧ Fr 30 a [(3, .int .i64 x811), (9, .slice A1 a0.f1.length c2), (10, .int .i64 (a0.f1.length : Int)), (11, .int .i64 x395), (16, .slice A728 y719.f0.length c729), (17, .int .i64 (y719.f0.length : Int)), (18, .int .i64 x812)] ∧ Own G (L) W) ?_ ?_ hS
          · rintro a W ⟨x811, x812, h, hF, hO⟩
            exact none_no h
          · clear hS
            rintro n853 a W ⟨x811, x812, h, hF, hO⟩
            rw [deadstore_Stores.l1] at h
            refine TC.use ?_ hF hO
            clear hF hO
            refine TC.seq ?_
            refine TC.region ?_
            refine TL.cons (TO.val rfl rfl rfl (Val.cmp rfl rfl run_lss) ?_)
            refine TL.nil ?_
            refine TQ.then_ ?_
            refine TC.seq ?_
            refine TC.cond_p rfl h (fun hc856 h => ?_) (fun hc856 h => ?_)
            · refine TC.skip ?_
              refine TQ.then_ ?_
              refine TC.seq ?_
              refine TC.block ?_
              refine TC.seq ?_
              refine TC.region ?_
              obtain ⟨y875, hx876, h⟩ := bind_no h
              obtain ⟨ad877, cs883, hA878, hi879, hj880, hcl881, hK882⟩ := Rd.at hr730 hx876
              obtain ⟨A884, c885, rfl, hr886, hl887⟩ := k30_openR hK882
              refine TL.cons (TO.val rfl rfl rfl (Val.indexAddr Try.underlying26 sz30 rfl hA878 rfl hi879 hj880) ?_)
              refine TL.cons (TO.val rfl rfl rfl (Val.loadsS (cs := [.int .i64 y875.f0, .int .i64 y875.f1, .int .i64 y875.f2, .int .i64 y875.f3, .int .i64 y875.f4, .slice A884 y875.f5.length c885]) agg30 sz30 rfl rfl (Cl.sub (off := 0) (n := 6) hcl881 rfl)) ?_)
              refine TL.cons (TL.alloc (cs := [.int .i64 0, .int .i64 0, .int .i64 0, .int .i64 0, .int .i64 0, .slice none 0 0]) rfl rfl zr30 rfl (fun b888 => ?_))
              refine TL.cons (TL.store 0 (ds := [.int .i64 y875.f0, .int .i64 y875.f1, .int .i64 y875.f2, .int .i64 y875.f3, .int .i64 y875.f4, .slice A884 y875.f5.length c885]) (cs' := [.int .i64 y875.f0, .int .i64 y875.f1, .int .i64 y875.f2, .int .i64 y875.f3, .int .i64 y875.f4, .slice A884 y875.f5.length c885]) (L' := (Blk b888 [.int .i64 y875.f0, .int .i64 y875.f1, .int .i64 y875.f2, .int .i64 y875.f3, .int .i64 y875.f4, .slice A884 y875.f5.length c885] 30 :: L)) rfl sz30 rfl rfl rfl rfl rfl (Nat.le_of_ble_eq_true rfl) rfl rfl ?_)
              refine TL.nil ?_
              refine TQ.then_ ?_
              refine TC.seq ?_
              refine TC.region ?_
              refine TL.cons (TO.val rfl rfl rfl (Val.fieldAddrB Try.underlying30 rfl sz3 rfl rfl rfl) ?_)
              refine TL.cons (TO.val rfl rfl rfl (Val.loadB 0 agg3 rfl rfl rfl) ?_)
              refine TL.cons (TO.val rfl rfl rfl (Val.cmp rfl rfl run_eql) ?_)
              refine TL.nil ?_
              refine TQ.then_ ?_
              obtain ⟨j891, hj891, h⟩ := jn_no h
              refine TC.tail (fun a W => ∃ (x890 : Int), j891 x890 = some o852 ∧ Fr 30 a [(3, .int .i64 x890), (9, .slice A1 a0.f1.length c2), (10, .int .i64 (a0.f1.length : Int)), (11, .int .i64 x395), (16, .slice A728 y719.f0.length c729), (17, .int .i64 (y719.f0.length : Int)), (18, .int .i64 x812)] ∧ Own G (L) W) ?_ ?_
              · rintro a W ⟨x890, h, hF, hO⟩
                rw [hj891] at h
                refine TQ.use ?_ hF hO
                clear hF hO
                refine TQ.inB ?_
                refine TQ.then_ ?_
                refine TC.region ?_
                refine TL.cons (TO.val rfl rfl rfl (Val.cmp rfl rfl run_add) ?_)
                refine TL.cons (TO.val rfl rfl rfl (Val.move rfl) ?_)
                refine TL.nil ?_
                exact fun a W hF hO => ⟨x890, IntKind.i64.wrap (x812 + 1), h, hF.sub ⟨rfl, rfl, rfl, rfl, rfl, rfl, rfl, trivial⟩, hO.selT (Ls := []) [] 0 rfl rfl rfl⟩
              · refine TC.cond_p rfl h (fun hc892 h => ?_) (fun hc892 h => ?_)
                · refine TC.region ?_
                  refine TL.cons (TO.val rfl rfl rfl (Val.move rfl) ?_)
                  refine TL.cons (TO.val rfl rfl rfl (Val.cmp rfl rfl run_add) ?_)
                  refine TL.cons (TO.val rfl rfl rfl (Val.assign rfl) ?_)
                  refine TL.nil ?_
                  exact fun a W hF hO => ⟨IntKind.i64.wrap (x811 + 1), h, hF.sub ⟨rfl, rfl, rfl, rfl, rfl, rfl, rfl, trivial⟩, hO.selT (Ls := []) [] 1 rfl rfl rfl⟩
                · refine TC.skip ?_
                  exact fun a W hF hO => ⟨x811, h, hF.sub ⟨rfl, rfl, rfl, rfl, rfl, rfl, rfl, trivial⟩, hO.selT (Ls := []) [] 1 rfl rfl rfl⟩
            · refine TC.exit ?_
              refine TQ.thenX ?_
              refine TQ.thenX ?_
              refine TQ.inBX ?_
              exact fun a W hF hO => ⟨x811, Option.some.inj h, hF.sub ⟨rfl, rfl, rfl, rfl, trivial⟩, hO.selT (Ls := []) [] 0 rfl rfl rfl⟩
      · refine TC.exit ?_
        refine TQ.thenX ?_
        refine TQ.thenX ?_
        refine TQ.inBX ?_
        exact fun a W hF hO => ⟨x394, Option.some.inj h, hF.sub ⟨rfl, trivial⟩, hO.selT (Ls := []) [] 0 rfl rfl rfl⟩
end Go.Proofs.Ytmacdhkfgoahcaa.Sx
set_option linter.unusedVariables false
set_option linter.unusedSimpArgs false
namespace Go.Proofs.Ytmacdhkfgoahcaa.Sx
open Go Go.RowKit Go.Proofs.YtmacdhkfgoahcaaW.PrintWords Go.Proofs.Ytmacdhkfgoahcaa.Q Go.Proofs.Ytmacdhkfgoahcaa.Fo Go.Proofs.Ytmacdhkfgoahcaa.De
theorem drop_cons {α : Type} {xs : List α} {k : Nat} {x : α} {r : List α} (h : xs.drop k = x :: r) : xs[k]? = some x ∧ k < xs.length ∧ xs.drop (k + 1) = r := by
  have hlt : k < xs.length := by
    rcases Nat.lt_or_ge k xs.length with h' | h'
    · exact h'
    · rw [List.drop_eq_nil_of_le h'] at h; cases h
  rw [List.drop_eq_getElem_cons hlt] at h
  injection h with h1 h2
  exact ⟨by rw [List.getElem?_eq_getElem hlt, h1], hlt, h2⟩
theorem drop_nil {α : Type} {xs : List α} {k : Nat} (h : xs.drop k = []) : xs.length ≤ k := by
  rcases Nat.lt_or_ge k xs.length with h' | h'
  · rw [List.drop_eq_getElem_cons h'] at h; cases h
  · exact h'
theorem clone_eq {l : List Int} (h : l.length ≤ 17592186044416) : slices_Clone_int_int.f l = some l := by
  unfold slices_Clone_int_int.f
  rw [if_pos (by simpa using h), List.nil_append]
theorem block_l0 (a0 : S28) (hl : a0.f0.length < 2199023255552) (hc : ∀ x ∈ a0.f0, x.f5.length ≤ 17592186044416) : ∀ (r : List S30) (k fuel : Nat) (acc : List S30), a0.f0.drop k = r → r.length < fuel → acc.length = k → deadstore_Block.l0 a0 fuel k acc = some (acc ++ r)
  | _, _, 0, _, _, h, _ => by omega
  | [], k, fuel + 1, acc, h, _, _ => by
    have := drop_nil h
    unfold deadstore_Block.l0
    rw [if_neg (by omega), List.append_nil]
  | x :: r, k, fuel + 1, acc, h, hf, ha => by
    obtain ⟨h1, h2, h3⟩ := drop_cons h
    unfold deadstore_Block.l0
    rw [if_pos (by omega), at_nat, h1]
    simp only [Option.bind_some]
    rw [clone_eq (hc x (List.mem_of_getElem? h1))]
    simp only [Option.bind_some]
    rw [if_pos (by omega), wrap_succ (by omega), block_l0 a0 hl hc r (k + 1) fuel _ h3 (by simpa using hf) (by simp [ha])]
    simp
/-- Numbers of their kind, rows not too long. -/
structure Fit (l : List S30) : Prop where
  wf : ∀ x ∈ l, WfOp x
  len : l.length < 1099511627776
  args : ∀ x ∈ l, x.f5.length ≤ 17592186044416
theorem dead_f {l : List S30} {t : S25} (h : Fit l) : deadstore_Dead.f ⟨l, t⟩ = some (deadL l) := by
  unfold deadstore_Dead.f
  exact if_pos ⟨h.wf, h.len⟩
theorem block_l1 (a0 : S28) : ∀ (fuel : Nat) (l : List S30), l.length < fuel → Fit l → deadstore_Block.l1 a0 fuel l = some ⟨keep l, a0.f1⟩
  | 0, _, h, _ => by omega
  | fuel + 1, l, h, hw => by
    unfold deadstore_Block.l1
    rw [dead_f hw]
    simp only [Option.bind_some]
    rcases first_dead l 0 with ⟨h1, h2⟩ | ⟨j, r, h1, h2, h3⟩
    · rw [deadL_idx, h1, if_pos (by simp), h2]
    · rw [deadL_idx, h1, Nat.zero_add, if_neg (by simp; omega)]
      have e : at? (((j : Nat) : Int) :: r) 0 = some ((j : Nat) : Int) := rfl
      have hl := hw.len
      rw [e]
      simp only [Option.bind_some]
      have hd : slices_Delete_api_Op_api_Op.f l (j : Int) (IntKind.i64.wrap ((j : Int) + 1)) = some (l.take j ++ l.drop (j + 1)) := by
        unfold slices_Delete_api_Op_api_Op.f
        rw [wrap_succ (by omega), if_pos (by omega), Int.toNat_natCast, Int.toNat_natCast]
      rw [hd]
      simp only [Option.bind_some]
      have hlen : (l.take j ++ l.drop (j + 1)).length + 1 = l.length := by rw [List.length_append, List.length_take, List.length_drop]; omega
      have hmem : ∀ x ∈ l.take j ++ l.drop (j + 1), x ∈ l := fun x hx => (List.mem_append.1 hx).elim List.mem_of_mem_take List.mem_of_mem_drop
      rw [block_l1 a0 fuel _ (by omega) ⟨fun x hx => hw.wf x (hmem x hx), by omega, fun x hx => hw.args x (hmem x hx)⟩, h3]
theorem block_f {a0 : S28} (h : Fit a0.f0) : deadstore_Block.f a0 = some ⟨keep a0.f0, a0.f1⟩ := by
  have hl := h.len
  unfold deadstore_Block.f
  rw [show (0 : Int) = ((0 : Nat) : Int) from rfl, block_l0 a0 (by omega) h.args a0.f0 0 _ [] (by simp) (by omega) rfl]
  simp only [Option.bind_some, List.nil_append]
  rw [block_l1 a0 _ _ (by omega) h]
  rfl
theorem keep_mem : ∀ {l : List S30} {x : S30}, x ∈ keep l → x ∈ l
  | [], _, h => by cases h
  | y :: r, x, h => by
    unfold keep at h
    split at h
    · exact List.mem_cons_of_mem _ (keep_mem h)
    · rcases List.mem_cons.1 h with rfl | h
      · simp
      · exact List.mem_cons_of_mem _ (keep_mem h)
theorem keep_length : ∀ (l : List S30), (keep l).length ≤ l.length
  | [] => Nat.le_refl _
  | y :: r => by
    have := keep_length r
    unfold keep
    split <;> simp <;> omega
theorem Fit.keep {l : List S30} (h : Fit l) : Fit (keep l) := ⟨fun x hx => h.wf x (keep_mem hx), Nat.lt_of_le_of_lt (keep_length l) h.len, fun x hx => h.args x (keep_mem hx)⟩
/-- How many stores. -/
def stores (l : List S30) : Nat := l.countP (fun x => x.f0 == 5)
theorem stores_l1 (y : S28) : ∀ (r : List S30) (k fuel n : Nat), y.f0.drop k = r → r.length < fuel → n + r.length < 9223372036854775807 → k + r.length < 9223372036854775807 → deadstore_Stores.l1 y fuel n k = some ((n + stores r : Nat) : Int)
  | _, _, 0, _, _, h, _, _ => by omega
  | [], k, fuel + 1, n, h, _, _, _ => by
    have := drop_nil h
    unfold deadstore_Stores.l1
    rw [if_neg (by omega)]; simp [stores]
  | x :: r, k, fuel + 1, n, h, hf, hn, hk => by
    obtain ⟨h1, h2, h3⟩ := drop_cons h
    simp only [List.length_cons] at hf hn hk
    unfold deadstore_Stores.l1
    rw [if_pos (by omega), at_nat, h1]
    simp only [Option.bind_some, jn]
    by_cases e : x.f0 = 5
    · rw [if_pos e, wrap_succ (by omega), wrap_succ (by omega), stores_l1 y r (k + 1) fuel (n + 1) h3 (by omega) (by omega) (by omega)]
      simp only [stores, List.countP_cons, e]; congr 2; simp; omega
    · rw [if_neg e, wrap_succ (by omega), stores_l1 y r (k + 1) fuel n h3 (by omega) (by omega) (by omega)]
      simp [stores, List.countP_cons, e]
def storesB (bs : List S28) : Nat := (bs.map fun b => stores b.f0).sum
def sizeB (bs : List S28) : Nat := (bs.map fun b => b.f0.length).sum
theorem stores_le (l : List S30) : stores l ≤ l.length := List.countP_le_length
theorem stores_l0 (a0 : S36) : ∀ (r : List S28) (k fuel n : Nat), a0.f1.drop k = r → r.length < fuel → n + sizeB r < 9223372036854775807 → k + r.length < 9223372036854775807 → deadstore_Stores.l0 a0 fuel n k = some ((n + storesB r : Nat) : Int)
  | _, _, 0, _, _, h, _, _ => by omega
  | [], k, fuel + 1, n, h, _, _, _ => by
    have := drop_nil h
    unfold deadstore_Stores.l0
    rw [if_neg (by omega)]; simp [storesB]
  | x :: r, k, fuel + 1, n, h, hf, hn, hk => by
    obtain ⟨h1, h2, h3⟩ := drop_cons h
    simp only [List.length_cons] at hf hk
    simp only [sizeB, List.map_cons, List.sum_cons] at hn
    have hs := stores_le x.f0
    unfold deadstore_Stores.l0
    rw [if_pos (by omega), at_nat, h1]
    simp only [Option.bind_some]
    rw [show (0 : Int) = ((0 : Nat) : Int) from rfl, stores_l1 x x.f0 0 _ n (by simp) (by omega) (by omega) (by omega)]
    simp only [Option.bind_some]
    rw [wrap_succ (by omega), stores_l0 a0 r (k + 1) fuel _ h3 (by omega) (by simp only [sizeB]; omega) (by omega)]
    simp only [storesB, List.map_cons, List.sum_cons]; congr 2; omega
theorem stores_f {a0 : S36} (h : sizeB a0.f1 < 9223372036854775807) (h2 : a0.f1.length < 9223372036854775807) : deadstore_Stores.f a0 = some ((storesB a0.f1 : Nat) : Int) := by
  unfold deadstore_Stores.f
  rw [show (0 : Int) = ((0 : Nat) : Int) from rfl, stores_l0 a0 a0.f1 0 _ 0 (by simp) (by omega) (by omega) (by omega)]
  simp
end Go.Proofs.Ytmacdhkfgoahcaa.Sx
set_option linter.unusedVariables false
set_option linter.unusedSimpArgs false
set_option maxRecDepth 100000
set_option maxHeartbeats 4000000
namespace Go.Proofs.Ytmacdhkfgoahcaa.Sx
open Go Go.RowKit Go.Proofs.YtmacdhkfgoahcaaW.PrintWords Go.Proofs.Ytmacdhkfgoahcaa.Q
def swageref02_Ints.l0 (a0 : (List Int)) (a1 : (List Int)) : Nat → Int → Option (Sum Bool (Unit))
  | 0, _ => none
  | n248 + 1, x168 => (if x168 < (a0.length : Int) then (at? a0 x168).bind fun y308 => (at? a1 x168).bind fun y317 => (if (!decide (y308 = y317)) = true then some (.inl false) else swageref02_Ints.l0 a0 a1 n248 (IntKind.i64.wrap (x168 + 1))) else some (.inr ()))
def swageref02_Ints.f (a0 : (List Int)) (a1 : (List Int)) : Option Bool := (if (!decide ((a0.length : Int) = (a1.length : Int))) = true then some false else (swageref02_Ints.l0 a0 a1 (a0.length + 1) 0).bind fun | .inl q_ => some q_ | .inr _ => (some true))
def swageref02_Ints.post (G : Gd) (r : Bool) (v : Value) (G' : Gd) (Lr : List Ch) : Prop := G = G' ∧ v = .bool r ∧ Lr = []
theorem swageref02_Ints.calls {G : Gd} {r : Bool} {a0 : (List Int)} {a1 : (List Int)} {A1 : Option Addr} {c2 : Nat} {A5 : Option Addr} {c6 : Nat} (hr3 : Rd G (Kd.int .i64) A1 a0) (hl4 : a0.length ≤ c2) (hr7 : Rd G (Kd.int .i64) A5 a1) (hl8 : a1.length ≤ c6) (h : swageref02_Ints.f a0 a1 = some r) : Fn Try.prog 19 G [] [.slice A1 a0.length c2, .slice A5 a1.length c6] (swageref02_Ints.post G r) := by
  refine Fn.intro Try.func19 rfl Try.ntmps19 rfl (Nat.le_of_ble_eq_true rfl) (fun L => ?_)
  unfold swageref02_Ints.f at h
  refine TC.seq ?_
  refine TC.region ?_
  refine TL.cons (TO.val rfl rfl rfl (Val.assign rfl) ?_)
  refine TL.nil ?_
  refine TQ.then_ ?_
  refine TC.seq ?_
  refine TC.seq ?_
  refine TC.region ?_
  refine TL.cons (TO.val rfl rfl rfl (Val.move rfl) ?_)
  refine TL.cons (TO.val rfl rfl rfl (Val.len Try.underlying22 rfl) ?_)
  refine TL.cons (TO.val rfl rfl rfl (Val.move rfl) ?_)
  refine TL.cons (TO.val rfl rfl rfl (Val.len Try.underlying22 rfl) ?_)
  refine TL.cons (TO.val rfl rfl rfl (Val.cmp rfl rfl run_neq) ?_)
  refine TL.nil ?_
  refine TQ.then_ ?_
  refine TC.cond_b rfl h (fun hc10 h => ?_) (fun hc10 h => ?_)
  · refine TC.seq ?_
    refine TC.region ?_
    refine TL.cons (TO.val rfl rfl rfl (Val.assign rfl) ?_)
    refine TL.nil ?_
    refine TQ.then_ ?_
    refine TC.ret ?_
    refine TQ.thenR ?_
    obtain rfl := Option.some.inj h
    exact TQ.done (Ls := []) (.inl rfl) [] 0 Try.results19 (.tmp rfl .nil) rfl (Gd.le.refl _) rfl rfl rfl ⟨rfl, rfl, rfl⟩
  · refine TC.skip ?_
    refine TQ.then_ ?_
    refine TC.seq ?_
    refine TC.seq ?_
    refine TC.region ?_
    refine TL.cons (TO.val rfl rfl rfl (Val.assign rfl) ?_)
    refine TL.nil ?_
    refine TQ.then_ ?_
    obtain ⟨o247, ho247, ko247⟩ := bind_no h
    clear h
    refine TC.tail (fun a W => (.inr ()) = o247 ∧ Fr 26 a [] ∧ Own G (L) W) ?_ ?_
    · rintro a W ⟨rfl, hF, hO⟩
      have h := ko247
      clear ko247 ho247
      refine TQ.use ?_ hF hO
      clear hF hO
      refine TQ.then_ ?_
      refine TC.seq ?_
      refine TC.region ?_
      refine TL.cons (TO.val rfl rfl rfl (Val.assign rfl) ?_)
      refine TL.nil ?_
      refine TQ.then_ ?_
      refine TC.ret ?_
      obtain rfl := Option.some.inj h
      exact TQ.done (Ls := []) (.inl rfl) [] 0 Try.results19 (.tmp rfl .nil) rfl (Gd.le.refl _) rfl rfl rfl ⟨rfl, rfl, rfl⟩
    · refine TC.block ?_
      intro a W hF hO
      have hS : ∃ (x168 : Int), swageref02_Ints.l0 a0 a1 (a0.length + 1) x168 = some o247 ∧ Fr 26 a [(0, .slice A1 a0.length c2), (1, .slice A5 a1.length c6), (5, .int .i64 x168)] ∧ Own G (L) W := by
        exact ⟨0, ho247, hF.sub ⟨rfl, rfl, rfl, trivial⟩, hO.selT (Ls := []) [] 0 rfl rfl rfl⟩
      clear hF hO ho247
      refine TC.loop (fun n248 a W => ∃ (x168 : Int), swageref02_Ints.l0 a0 a1 n248 x168 = some o247 ∧ Fr 26 a [(0, .slice A1 a0.length c2), (1, .slice A5 a1.length c6), (5, .int .i64 x168)] ∧ Own G (L) W) ?_ ?_ hS
      · rintro a W ⟨x168, h, hF, hO⟩
        exact none_no h
      · clear hS
        rintro n248 a W ⟨x168, h, hF, hO⟩
        rw [swageref02_Ints.l0] at h
        refine TC.use ?_ hF hO
        clear hF hO
        refine TC.seq ?_
        refine TC.seq ?_
        refine TC.region ?_
        refine TL.cons (TO.val rfl rfl rfl (Val.move rfl) ?_)
        refine TL.cons (TO.val rfl rfl rfl (Val.move rfl) ?_)
        refine TL.cons (TO.val rfl rfl rfl (Val.len Try.underlying22 rfl) ?_)
        refine TL.cons (TO.val rfl rfl rfl (Val.cmp rfl rfl run_lss) ?_)
        refine TL.nil ?_
        refine TQ.then_ ?_
        refine TC.cond_p rfl h (fun hc251 h => ?_) (fun hc251 h => ?_)
        · refine TC.skip ?_
          refine TQ.then_ ?_
          refine TC.seq ?_
          refine TC.block ?_
          refine TC.seq ?_
          refine TC.regionAny [] mixed ?_
          refine TA.take 0 rfl (by kernel_rfl) rfl (PQ.then_ (PQ.inB (PQ.then_ (PQ.then_ (PQ.inB (PQ.then_ (PQ.then_ PQ.body))))))) rfl (Val.move rfl) (fun W hO => hO) ?_
          refine TA.take 1 rfl (by kernel_rfl) rfl (PQ.then_ (PQ.inB (PQ.then_ (PQ.then_ (PQ.inB (PQ.then_ (PQ.then_ PQ.body))))))) rfl (Val.move rfl) (fun W hO => hO) ?_
          obtain ⟨y308, hx309, h⟩ := bind_no h
          obtain ⟨ad310, cs316, hA311, hi312, hj313, hcl314, hK315⟩ := Rd.at hr3 hx309
          obtain rfl := RdK.int hK315
          refine TA.take 2 rfl (by kernel_rfl) rfl (PQ.then_ (PQ.inB (PQ.then_ (PQ.then_ (PQ.inB (PQ.then_ (PQ.then_ PQ.body))))))) rfl (Val.indexAddr Try.underlying22 sz3 rfl hA311 rfl hi312 hj313) (fun W hO => hO) ?_
          refine TA.take 3 rfl (by kernel_rfl) rfl (PQ.then_ (PQ.inB (PQ.then_ (PQ.then_ (PQ.inB (PQ.then_ (PQ.then_ PQ.body))))))) rfl (Val.loadS agg3 rfl (hcl314 0 _ rfl)) (fun W hO => hO) ?_
          refine TA.take 4 rfl (by kernel_rfl) rfl (PQ.then_ (PQ.inB (PQ.then_ (PQ.then_ (PQ.inB (PQ.then_ (PQ.then_ PQ.body))))))) rfl (Val.move rfl) (fun W hO => hO) ?_
          refine TA.take 5 rfl (by kernel_rfl) rfl (PQ.then_ (PQ.inB (PQ.then_ (PQ.then_ (PQ.inB (PQ.then_ (PQ.then_ PQ.body))))))) rfl (Val.move rfl) (fun W hO => hO) ?_
          obtain ⟨y317, hx318, h⟩ := bind_no h
          obtain ⟨ad319, cs325, hA320, hi321, hj322, hcl323, hK324⟩ := Rd.at hr7 hx318
          obtain rfl := RdK.int hK324
          refine TA.take 6 rfl (by kernel_rfl) rfl (PQ.then_ (PQ.inB (PQ.then_ (PQ.then_ (PQ.inB (PQ.then_ (PQ.then_ PQ.body))))))) rfl (Val.indexAddr Try.underlying22 sz3 rfl hA320 rfl hi321 hj322) (fun W hO => hO) ?_
          refine TA.take 7 rfl (by kernel_rfl) rfl (PQ.then_ (PQ.inB (PQ.then_ (PQ.then_ (PQ.inB (PQ.then_ (PQ.then_ PQ.body))))))) rfl (Val.loadS agg3 rfl (hcl323 0 _ rfl)) (fun W hO => hO) ?_
          refine TA.take 8 rfl (by kernel_rfl) rfl (PQ.then_ (PQ.inB (PQ.then_ (PQ.then_ (PQ.inB (PQ.then_ (PQ.then_ PQ.body))))))) rfl (Val.cmp rfl rfl run_neq) (fun W hO => hO) ?_
          refine TA.done (by kernel_rfl) ?_
          refine TQ.then_ ?_
          refine TC.cond_b rfl h (fun hc327 h => ?_) (fun hc327 h => ?_)
          · refine TC.seq ?_
            refine TC.region ?_
            refine TL.cons (TO.val rfl rfl rfl (Val.assign rfl) ?_)
            refine TL.nil ?_
            refine TQ.then_ ?_
            refine TC.ret ?_
            refine TQ.inBR ?_
            refine TQ.thenR ?_
            refine TQ.thenR ?_
            refine TQ.inBR ?_
            refine TQ.thenR ?_
            refine TQ.thenR ?_
            obtain rfl := Option.some.inj h
            have h := ko247
            obtain rfl := Option.some.inj h
            exact TQ.done (Ls := []) (.inl rfl) [] 0 Try.results19 (.tmp rfl .nil) rfl (Gd.le.refl _) rfl rfl rfl ⟨rfl, rfl, rfl⟩
          · refine TC.skip ?_
            refine TQ.inB ?_
            refine TQ.then_ ?_
            refine TC.region ?_
            refine TL.cons (TO.val rfl rfl rfl (Val.move rfl) ?_)
            refine TL.cons (TO.val rfl rfl rfl (Val.cmp rfl rfl run_add) ?_)
            refine TL.cons (TO.val rfl rfl rfl (Val.assign rfl) ?_)
            refine TL.nil ?_
            exact fun a W hF hO => ⟨IntKind.i64.wrap (x168 + 1), h, hF.sub ⟨rfl, rfl, rfl, trivial⟩, hO.selT (Ls := []) [] 0 rfl rfl rfl⟩
        · refine TC.exit ?_
          refine TQ.thenX ?_
          refine TQ.thenX ?_
          refine TQ.inBX ?_
          exact fun a W hF hO => ⟨Option.some.inj h, hF.sub trivial, hO.selT (Ls := []) [] 0 rfl rfl rfl⟩
end Go.Proofs.Ytmacdhkfgoahcaa.Sx
set_option linter.unusedVariables false
set_option linter.unusedSimpArgs false
set_option maxRecDepth 100000
set_option maxHeartbeats 4000000
namespace Go.Proofs.Ytmacdhkfgoahcaa.Sx
open Go Go.RowKit Go.Proofs.YtmacdhkfgoahcaaW.PrintWords Go.Proofs.Ytmacdhkfgoahcaa.Q
def swagelaw23_some.f : Option S28 := some (⟨([(⟨5, 0, 1, 2, 0, ([] : List Int)⟩ : S30), (⟨1, 3, 0, 0, 1, ([] : List Int)⟩ : S30), (⟨5, 0, 1, 3, 0, ([] : List Int)⟩ : S30)] : List S30), (⟨3, 3, 0, 0⟩ : S25)⟩ : S28)
def swagelaw23_some.post (G : Gd) (r : S28) (v : Value) (G' : Gd) (Lr : List Ch) : Prop := G = G' ∧ ∃ (A_1 : Option Addr) (c_1 : Nat), v = .agg #[.slice A_1 r.f0.length c_1, .int .i64 r.f1.f0, .int .i64 r.f1.f1, .int .i64 r.f1.f2, .int .i64 r.f1.f3] ∧ Lr = [Row k30 30 (.slice A_1 r.f0.length c_1) r.f0]
theorem swagelaw23_some.calls {G : Gd} {r : S28} (h : swagelaw23_some.f = some r) : Fn Try.prog 33 G [] [] (swagelaw23_some.post G r) := by
  refine Fn.intro Try.func33 rfl Try.ntmps33 rfl (Nat.le_of_ble_eq_true rfl) (fun L => ?_)
  unfold swagelaw23_some.f at h
  refine TC.seq ?_
  refine TC.region ?_
  refine TL.cons (TL.alloc (cs := [.slice none 0 0, .int .i64 0, .int .i64 0, .int .i64 0, .int .i64 0]) rfl rfl zr28 rfl (fun b1 => ?_))
  refine TL.nil ?_
  refine TQ.then_ ?_
  refine TC.seq ?_
  refine TC.region ?_
  refine TL.cons (TO.val rfl rfl rfl (Val.build (cs := [.int .i64 5, .int .i64 0, .int .i64 1, .int .i64 2, .int .i64 0, .slice none 0 0]) (is := [0, 2, 3]) (xs := [.const (.int .i64 5), .const (.int .i64 1), .const (.int .i64 2)]) Try.underlying30 zr30 bld30 rfl rfl rfl rfl) ?_)
  refine TL.cons (TO.val rfl rfl rfl (Val.build (cs := [.int .i64 1, .int .i64 3, .int .i64 0, .int .i64 0, .int .i64 1, .slice none 0 0]) (is := [0, 1, 4]) (xs := [.const (.int .i64 1), .const (.int .i64 3), .const (.int .i64 1)]) Try.underlying30 zr30 bld30 rfl rfl rfl rfl) ?_)
  refine TL.cons (TO.val rfl rfl rfl (Val.build (cs := [.int .i64 5, .int .i64 0, .int .i64 1, .int .i64 3, .int .i64 0, .slice none 0 0]) (is := [0, 2, 3]) (xs := [.const (.int .i64 5), .const (.int .i64 1), .const (.int .i64 3)]) Try.underlying30 zr30 bld30 rfl rfl rfl rfl) ?_)
  refine TL.cons (TL.buildSlice (xs := [.tmp 1, .tmp 2, .tmp 3]) (vs := [.agg #[.int .i64 5, .int .i64 0, .int .i64 1, .int .i64 2, .int .i64 0, .slice none 0 0], .agg #[.int .i64 1, .int .i64 3, .int .i64 0, .int .i64 0, .int .i64 1, .slice none 0 0], .agg #[.int .i64 5, .int .i64 0, .int .i64 1, .int .i64 3, .int .i64 0, .slice none 0 0]]) (cs := [.int .i64 5, .int .i64 0, .int .i64 1, .int .i64 2, .int .i64 0, .slice none 0 0, .int .i64 1, .int .i64 3, .int .i64 0, .int .i64 0, .int .i64 1, .slice none 0 0, .int .i64 5, .int .i64 0, .int .i64 1, .int .i64 3, .int .i64 0, .slice none 0 0]) rfl rfl Try.underlying26 zs30 rfl rfl rfl rfl rfl rfl rfl rfl (fun b2 => ?_))
  refine TL.cons (TO.val rfl rfl rfl (Val.build (cs := [.int .i64 3, .int .i64 3, .int .i64 0, .int .i64 0]) (is := [0, 1]) (xs := [.const (.int .i64 3), .const (.int .i64 3)]) Try.underlying25 zr25 bld25 rfl rfl rfl rfl) ?_)
  refine TL.cons (TO.val rfl rfl rfl (Val.build (cs := [.slice (some ⟨b2, 0, none⟩) 3 3, .int .i64 3, .int .i64 3, .int .i64 0, .int .i64 0]) (is := [0, 1]) (xs := [.tmp 4, .tmp 5]) Try.underlying28 zr28 bld28 rfl rfl rfl rfl) ?_)
  refine TL.cons (TL.store 1 (ds := [.slice (some ⟨b2, 0, none⟩) 3 3, .int .i64 3, .int .i64 3, .int .i64 0, .int .i64 0]) (cs' := [.slice (some ⟨b2, 0, none⟩) 3 3, .int .i64 3, .int .i64 3, .int .i64 0, .int .i64 0]) (L' := (Blk b2 [.int .i64 5, .int .i64 0, .int .i64 1, .int .i64 2, .int .i64 0, .slice none 0 0, .int .i64 1, .int .i64 3, .int .i64 0, .int .i64 0, .int .i64 1, .slice none 0 0, .int .i64 5, .int .i64 0, .int .i64 1, .int .i64 3, .int .i64 0, .slice none 0 0] 30 :: Blk b1 [.slice (some ⟨b2, 0, none⟩) 3 3, .int .i64 3, .int .i64 3, .int .i64 0, .int .i64 0] 28 :: L)) rfl sz28 rfl rfl rfl rfl rfl (Nat.le_of_ble_eq_true rfl) rfl rfl ?_)
  refine TL.nil ?_
  refine TQ.then_ ?_
  refine TC.ret ?_
  refine TQ.new (Els.nil k30) ?_
  refine TQ.new (Row.nil (Kd.int .i64) 3) ?_
  refine TQ.conv (ch' := El k30 (⟨5, 0, 1, 2, 0, ([] : List Int)⟩ : S30) [.int .i64 5, .int .i64 0, .int .i64 1, .int .i64 2, .int .i64 0, .slice none 0 0]) (fun B W F hh => k30_mkM W B F (⟨5, 0, 1, 2, 0, ([] : List Int)⟩ : S30) hh) ?_
  refine TQ.sel (Ls := [Els k30 [] [], El k30 (⟨5, 0, 1, 2, 0, ([] : List Int)⟩ : S30) [.int .i64 5, .int .i64 0, .int .i64 1, .int .i64 2, .int .i64 0, .slice none 0 0], Blk b2 [.int .i64 5, .int .i64 0, .int .i64 1, .int .i64 2, .int .i64 0, .slice none 0 0, .int .i64 1, .int .i64 3, .int .i64 0, .int .i64 0, .int .i64 1, .slice none 0 0, .int .i64 5, .int .i64 0, .int .i64 1, .int .i64 3, .int .i64 0, .slice none 0 0] 30, Blk b1 [.slice (some ⟨b2, 0, none⟩) 3 3, .int .i64 3, .int .i64 3, .int .i64 0, .int .i64 0] 28]) [1, 0, 2, 3] 4 rfl rfl rfl ?_
  refine TQ.two (ch := Els k30 [(⟨5, 0, 1, 2, 0, ([] : List Int)⟩ : S30)] [.int .i64 5, .int .i64 0, .int .i64 1, .int .i64 2, .int .i64 0, .slice none 0 0]) (Els.snoc k30) ?_
  refine TQ.new (Row.nil (Kd.int .i64) 3) ?_
  refine TQ.conv (ch' := El k30 (⟨1, 3, 0, 0, 1, ([] : List Int)⟩ : S30) [.int .i64 1, .int .i64 3, .int .i64 0, .int .i64 0, .int .i64 1, .slice none 0 0]) (fun B W F hh => k30_mkM W B F (⟨1, 3, 0, 0, 1, ([] : List Int)⟩ : S30) hh) ?_
  refine TQ.sel (Ls := [Els k30 [(⟨5, 0, 1, 2, 0, ([] : List Int)⟩ : S30)] [.int .i64 5, .int .i64 0, .int .i64 1, .int .i64 2, .int .i64 0, .slice none 0 0], El k30 (⟨1, 3, 0, 0, 1, ([] : List Int)⟩ : S30) [.int .i64 1, .int .i64 3, .int .i64 0, .int .i64 0, .int .i64 1, .slice none 0 0], Blk b2 [.int .i64 5, .int .i64 0, .int .i64 1, .int .i64 2, .int .i64 0, .slice none 0 0, .int .i64 1, .int .i64 3, .int .i64 0, .int .i64 0, .int .i64 1, .slice none 0 0, .int .i64 5, .int .i64 0, .int .i64 1, .int .i64 3, .int .i64 0, .slice none 0 0] 30, Blk b1 [.slice (some ⟨b2, 0, none⟩) 3 3, .int .i64 3, .int .i64 3, .int .i64 0, .int .i64 0] 28]) [1, 0, 2, 3] 4 rfl rfl rfl ?_
  refine TQ.two (ch := Els k30 [(⟨5, 0, 1, 2, 0, ([] : List Int)⟩ : S30), (⟨1, 3, 0, 0, 1, ([] : List Int)⟩ : S30)] [.int .i64 5, .int .i64 0, .int .i64 1, .int .i64 2, .int .i64 0, .slice none 0 0, .int .i64 1, .int .i64 3, .int .i64 0, .int .i64 0, .int .i64 1, .slice none 0 0]) (Els.snoc k30) ?_
  refine TQ.new (Row.nil (Kd.int .i64) 3) ?_
  refine TQ.conv (ch' := El k30 (⟨5, 0, 1, 3, 0, ([] : List Int)⟩ : S30) [.int .i64 5, .int .i64 0, .int .i64 1, .int .i64 3, .int .i64 0, .slice none 0 0]) (fun B W F hh => k30_mkM W B F (⟨5, 0, 1, 3, 0, ([] : List Int)⟩ : S30) hh) ?_
  refine TQ.sel (Ls := [Els k30 [(⟨5, 0, 1, 2, 0, ([] : List Int)⟩ : S30), (⟨1, 3, 0, 0, 1, ([] : List Int)⟩ : S30)] [.int .i64 5, .int .i64 0, .int .i64 1, .int .i64 2, .int .i64 0, .slice none 0 0, .int .i64 1, .int .i64 3, .int .i64 0, .int .i64 0, .int .i64 1, .slice none 0 0], El k30 (⟨5, 0, 1, 3, 0, ([] : List Int)⟩ : S30) [.int .i64 5, .int .i64 0, .int .i64 1, .int .i64 3, .int .i64 0, .slice none 0 0], Blk b2 [.int .i64 5, .int .i64 0, .int .i64 1, .int .i64 2, .int .i64 0, .slice none 0 0, .int .i64 1, .int .i64 3, .int .i64 0, .int .i64 0, .int .i64 1, .slice none 0 0, .int .i64 5, .int .i64 0, .int .i64 1, .int .i64 3, .int .i64 0, .slice none 0 0] 30, Blk b1 [.slice (some ⟨b2, 0, none⟩) 3 3, .int .i64 3, .int .i64 3, .int .i64 0, .int .i64 0] 28]) [1, 0, 2, 3] 4 rfl rfl rfl ?_
  refine TQ.two (ch := Els k30 [(⟨5, 0, 1, 2, 0, ([] : List Int)⟩ : S30), (⟨1, 3, 0, 0, 1, ([] : List Int)⟩ : S30), (⟨5, 0, 1, 3, 0, ([] : List Int)⟩ : S30)] [.int .i64 5, .int .i64 0, .int .i64 1, .int .i64 2, .int .i64 0, .slice none 0 0, .int .i64 1, .int .i64 3, .int .i64 0, .int .i64 0, .int .i64 1, .slice none 0 0, .int .i64 5, .int .i64 0, .int .i64 1, .int .i64 3, .int .i64 0, .slice none 0 0]) (Els.snoc k30) ?_
  refine TQ.sel (Ls := [Blk b2 [.int .i64 5, .int .i64 0, .int .i64 1, .int .i64 2, .int .i64 0, .slice none 0 0, .int .i64 1, .int .i64 3, .int .i64 0, .int .i64 0, .int .i64 1, .slice none 0 0, .int .i64 5, .int .i64 0, .int .i64 1, .int .i64 3, .int .i64 0, .slice none 0 0] 30, Els k30 [(⟨5, 0, 1, 2, 0, ([] : List Int)⟩ : S30), (⟨1, 3, 0, 0, 1, ([] : List Int)⟩ : S30), (⟨5, 0, 1, 3, 0, ([] : List Int)⟩ : S30)] [.int .i64 5, .int .i64 0, .int .i64 1, .int .i64 2, .int .i64 0, .slice none 0 0, .int .i64 1, .int .i64 3, .int .i64 0, .int .i64 0, .int .i64 1, .slice none 0 0, .int .i64 5, .int .i64 0, .int .i64 1, .int .i64 3, .int .i64 0, .slice none 0 0], Blk b1 [.slice (some ⟨b2, 0, none⟩) 3 3, .int .i64 3, .int .i64 3, .int .i64 0, .int .i64 0] 28]) [1, 0, 2] 3 rfl rfl rfl ?_
  refine TQ.two (ch := Row k30 30 (.slice (some ⟨b2, 0, none⟩) 3 3) ([(⟨5, 0, 1, 2, 0, ([] : List Int)⟩ : S30), (⟨1, 3, 0, 0, 1, ([] : List Int)⟩ : S30), (⟨5, 0, 1, 3, 0, ([] : List Int)⟩ : S30)] : List S30)) (Row.lit k30 rfl rfl) ?_
  obtain rfl := Option.some.inj h
  exact TQ.done (Ls := [Row k30 30 (.slice (some ⟨b2, 0, none⟩) 3 3) ([(⟨5, 0, 1, 2, 0, ([] : List Int)⟩ : S30), (⟨1, 3, 0, 0, 1, ([] : List Int)⟩ : S30), (⟨5, 0, 1, 3, 0, ([] : List Int)⟩ : S30)] : List S30)]) (.inl rfl) [0] 2 Try.results33 (.cells 1 rfl rfl agg28 sz28 .nil) rfl (Gd.le.refl _) rfl rfl rfl ⟨rfl, (some ⟨b2, 0, none⟩), 3, rfl, rfl⟩
end Go.Proofs.Ytmacdhkfgoahcaa.Sx
set_option linter.unusedVariables false
set_option linter.unusedSimpArgs false
set_option maxRecDepth 100000
set_option maxHeartbeats 4000000
namespace Go.Proofs.Ytmacdhkfgoahcaa.Sx
open Go Go.RowKit Go.Proofs.YtmacdhkfgoahcaaW.PrintWords Go.Proofs.Ytmacdhkfgoahcaa.Q
def swagelaw23_small.f : Option Bool := (swagelaw23_some.f).bind fun (y1 : S28) => (deadstore_Block.f y1).bind fun (y12 : S28) => (swagelaw23_some.f).bind fun (y109 : S28) => (deadstore_Dead.f y109).bind fun (y120 : (List Int)) => (swageref02_Ints.f y120 ([0] : List Int)).bind fun (y139 : Bool) => (if y139 = true then (if (y12.f0.length : Int) = 2 then (at? y12.f0 0).bind fun y151 => (if y151.f0 = 1 then (at? y12.f0 1).bind fun y166 => (if y166.f3 = 3 then (swagelaw23_some.f).bind fun (y181 : S28) => (deadstore_Stores.f (⟨0, ([y181] : List S28)⟩ : S36)).bind fun (y194 : Int) => some (decide (y194 = 2)) else some false) else some false) else some false) else some false)
def swagelaw23_small.post (G : Gd) (r : Bool) (v : Value) (G' : Gd) (Lr : List Ch) : Prop := G = G' ∧ v = .bool r ∧ Lr = []
theorem swagelaw23_small.calls {G : Gd} {r : Bool} (h : swagelaw23_small.f = some r) : Fn Try.prog 9 G [] [] (swagelaw23_small.post G r) := by
  refine Fn.intro Try.func9 rfl Try.ntmps9 rfl (Nat.le_of_ble_eq_true rfl) (fun L => ?_)
  unfold swagelaw23_small.f at h
  refine TC.seq ?_
  refine TC.region ?_
  refine TL.cons (TO.val rfl rfl rfl (Val.assign rfl) ?_)
  refine TL.nil ?_
  refine TQ.then_ ?_
  refine TC.seq ?_
  refine TC.region ?_
  obtain ⟨y1, hy2, h⟩ := bind_no h
  refine TL.cons (TL.callV (Lin := []) (args := []) rfl rfl rfl hb33 rfl rfl (swagelaw23_some.calls hy2) rfl ?_)
  rintro _ _ _ _ ⟨rfl, A3, c4, rfl, rfl⟩
  refine TK.share (fun G6 e7 hs8 hb9 => ?_)
  have rd10 : Rd G6 k30 A3 y1.f0 := Rd.row hs8
  have le11 : y1.f0.length ≤ c4 := Row.le hs8
  obtain ⟨y12, hy13, h⟩ := bind_no h
  refine TL.cons (TL.callV (Lin := []) (args := [.agg #[.slice A3 y1.f0.length c4, .int .i64 y1.f1.f0, .int .i64 y1.f1.f1, .int .i64 y1.f1.f2, .int .i64 y1.f1.f3]]) rfl rfl rfl hb11 rfl rfl (deadstore_Block.calls (a0 := y1) rd10 le11 hy13) rfl ?_)
  rintro _ _ _ _ ⟨rfl, A14, c15, rfl, rfl⟩
  refine TL.cons (TL.alloc (cs := [.slice none 0 0, .int .i64 0, .int .i64 0, .int .i64 0, .int .i64 0]) rfl rfl zr28 rfl (fun b17 => ?_))
  refine TL.cons (TL.store 0 (ds := [.slice A14 y12.f0.length c15, .int .i64 y12.f1.f0, .int .i64 y12.f1.f1, .int .i64 y12.f1.f2, .int .i64 y12.f1.f3]) (cs' := [.slice A14 y12.f0.length c15, .int .i64 y12.f1.f0, .int .i64 y12.f1.f1, .int .i64 y12.f1.f2, .int .i64 y12.f1.f3]) (L' := (Blk b17 [.slice A14 y12.f0.length c15, .int .i64 y12.f1.f0, .int .i64 y12.f1.f1, .int .i64 y12.f1.f2, .int .i64 y12.f1.f3] 28 :: Row k30 30 (.slice A14 y12.f0.length c15) y12.f0 :: L)) rfl sz28 rfl rfl rfl rfl rfl (Nat.le_of_ble_eq_true rfl) rfl rfl ?_)
  refine TL.nil ?_
  refine TQ.then_ ?_
  refine TC.seq ?_
  refine TC.back hb9 ?_
  refine TC.region ?_
  obtain ⟨y109, hy110, h⟩ := bind_no h
  refine TL.cons (TL.callV (Lin := []) (args := []) rfl rfl rfl hb33 rfl rfl (swagelaw23_some.calls hy110) rfl ?_)
  rintro _ _ _ _ ⟨rfl, A111, c112, rfl, rfl⟩
  refine TK.share (fun G114 e115 hs116 hb117 => ?_)
  have rd118 : Rd G114 k30 A111 y109.f0 := Rd.row hs116
  have le119 : y109.f0.length ≤ c112 := Row.le hs116
  obtain ⟨y120, hy121, h⟩ := bind_no h
  refine TL.cons (TL.callV (Lin := []) (args := [.agg #[.slice A111 y109.f0.length c112, .int .i64 y109.f1.f0, .int .i64 y109.f1.f1, .int .i64 y109.f1.f2, .int .i64 y109.f1.f3]]) rfl rfl rfl hb10 rfl rfl (deadstore_Dead.calls (a0 := y109) rd118 le119 hy121) rfl ?_)
  rintro _ _ _ _ ⟨rfl, A122, c123, rfl, rfl⟩
  refine TL.cons (TL.buildSlice (xs := [.const (.int .i64 0)]) (vs := [.int .i64 0]) (cs := [.int .i64 0]) rfl rfl Try.underlying22 zs3 rfl rfl rfl rfl rfl rfl rfl rfl (fun b125 => ?_))
  refine TK.sel (Ls := [Row (Kd.int .i64) 3 (.slice A122 y120.length c123) y120, Blk b125 [.int .i64 0] 3, Row k30 30 (.slice A3 y1.f0.length c4) y1.f0, Blk b17 [.slice A14 y12.f0.length c15, .int .i64 y12.f1.f0, .int .i64 y12.f1.f1, .int .i64 y12.f1.f2, .int .i64 y12.f1.f3] 28, Row k30 30 (.slice A14 y12.f0.length c15) y12.f0]) [1, 0, 2, 3, 4] 5 rfl rfl rfl ?_
  refine TK.share (fun G126 e127 hs128 hb129 => ?_)
  have rd130 : Rd G126 (Kd.int .i64) A122 y120 := Rd.row hs128
  have le131 : y120.length ≤ c123 := Row.le hs128
  refine TK.new (Els.nil (Kd.int .i64)) ?_
  refine TK.new (El.of (k := (Kd.int .i64)) (xv := 0) (cs := [.int .i64 0]) (fun W B => rfl)) ?_
  refine TK.sel (Ls := [Els (Kd.int .i64) [] [], El (Kd.int .i64) 0 [.int .i64 0], Blk b125 [.int .i64 0] 3, Row k30 30 (.slice A3 y1.f0.length c4) y1.f0, Blk b17 [.slice A14 y12.f0.length c15, .int .i64 y12.f1.f0, .int .i64 y12.f1.f1, .int .i64 y12.f1.f2, .int .i64 y12.f1.f3] 28, Row k30 30 (.slice A14 y12.f0.length c15) y12.f0]) [1, 0, 2, 3, 4, 5] 6 rfl rfl rfl ?_
  refine TK.two (ch := Els (Kd.int .i64) [0] [.int .i64 0]) (Els.snoc (Kd.int .i64)) ?_
  refine TK.sel (Ls := [Blk b125 [.int .i64 0] 3, Els (Kd.int .i64) [0] [.int .i64 0], Row k30 30 (.slice A3 y1.f0.length c4) y1.f0, Blk b17 [.slice A14 y12.f0.length c15, .int .i64 y12.f1.f0, .int .i64 y12.f1.f1, .int .i64 y12.f1.f2, .int .i64 y12.f1.f3] 28, Row k30 30 (.slice A14 y12.f0.length c15) y12.f0]) [1, 0, 2, 3, 4] 5 rfl rfl rfl ?_
  refine TK.two (ch := Row (Kd.int .i64) 3 (.slice (some ⟨b125, 0, none⟩) 1 1) ([0] : List Int)) (Row.lit (Kd.int .i64) rfl rfl) ?_
  refine TK.share (fun G133 e134 hs135 hb136 => ?_)
  have rd137 : Rd G133 (Kd.int .i64) (some ⟨b125, 0, none⟩) ([0] : List Int) := Rd.row hs135
  have le138 : ([0] : List Int).length ≤ 1 := Row.le hs135
  obtain ⟨y139, hy140, h⟩ := bind_no h
  refine TL.cons (TL.callV (Lin := []) (args := [.slice A122 y120.length c123, .slice (some ⟨b125, 0, none⟩) 1 1]) rfl rfl rfl hb19 rfl rfl (swageref02_Ints.calls (a0 := y120) (a1 := ([0] : List Int)) (rd130.up e134) le131 rd137 le138 hy140) rfl ?_)
  rintro _ _ _ _ ⟨rfl, rfl, rfl⟩
  refine TL.cons (TO.val rfl rfl rfl (Val.move rfl) ?_)
  refine TK.split (p := y139 = true) h (fun hg141 h => ?_) (fun hg141 h => ?_)
  · have hk142 : y139 = true := hg141
    refine TL.cons (TO.val (Wt.yes rfl rfl rfl hk142) rfl rfl (Val.fieldAddrB Try.underlying28 rfl sz26 rfl rfl rfl) ?_)
    refine TL.cons (TO.val (Wt.yes rfl rfl rfl hk142) rfl rfl (Val.loadB 1 agg26 rfl rfl rfl) ?_)
    refine TL.cons (TO.val (Wt.yes rfl rfl rfl hk142) rfl rfl (Val.len Try.underlying26 rfl) ?_)
    refine TL.cons (TO.val (Wt.yes rfl rfl rfl hk142) rfl rfl (Val.cmp rfl rfl run_eql) ?_)
    refine TL.cons (TO.val rfl rfl rfl (Val.pickY rfl hk142 rfl) ?_)
    refine TL.cons (TO.val rfl rfl rfl (Val.move rfl) ?_)
    refine TK.split (p := (y12.f0.length : Int) = 2) h (fun hg143 h => ?_) (fun hg143 h => ?_)
    · have hk144 : decide ((y12.f0.length : Int) = 2) = true := decide_eq_true hg143
      refine TL.cons (TO.val (Wt.yes rfl rfl rfl hk144) rfl rfl (Val.fieldAddrB Try.underlying28 rfl sz26 rfl rfl rfl) ?_)
      refine TL.cons (TO.val (Wt.yes rfl rfl rfl hk144) rfl rfl (Val.loadB 1 agg26 rfl rfl rfl) ?_)
      refine TK.sel (Ls := [Row k30 30 (.slice A14 y12.f0.length c15) y12.f0, Row k30 30 (.slice A3 y1.f0.length c4) y1.f0, Blk b17 [.slice A14 y12.f0.length c15, .int .i64 y12.f1.f0, .int .i64 y12.f1.f1, .int .i64 y12.f1.f2, .int .i64 y12.f1.f3] 28]) [2, 0, 1] 3 rfl rfl rfl ?_
      refine TK.share (fun G145 e146 hs147 hb148 => ?_)
      have rd149 : Rd G145 k30 A14 y12.f0 := Rd.row hs147
      have le150 : y12.f0.length ≤ c15 := Row.le hs147
      obtain ⟨y151, hx152, h⟩ := bind_no h
      obtain ⟨ad153, cs159, hA154, hi155, hj156, hcl157, hK158⟩ := Rd.at rd149 hx152
      obtain ⟨A160, c161, rfl, hr162, hl163⟩ := k30_openR hK158
      refine TL.cons (TO.val (Wt.yes rfl rfl rfl hk144) rfl rfl (Val.indexAddr Try.underlying26 sz30 rfl hA154 rfl hi155 hj156) ?_)
      refine TL.cons (TO.val (Wt.yes rfl rfl rfl hk144) rfl rfl (Val.fieldAddrE Try.underlying30 rfl sz3 rfl rfl) ?_)
      refine TL.cons (TO.val (Wt.yes rfl rfl rfl hk144) rfl rfl (Val.loadS agg3 rfl (hcl157 0 _ rfl)) ?_)
      refine TL.cons (TO.val (Wt.yes rfl rfl rfl hk144) rfl rfl (Val.cmp rfl rfl run_eql) ?_)
      refine TL.cons (TO.val rfl rfl rfl (Val.pickY rfl hk144 rfl) ?_)
      refine TL.cons (TO.val rfl rfl rfl (Val.move rfl) ?_)
      refine TK.split (p := y151.f0 = 1) h (fun hg164 h => ?_) (fun hg164 h => ?_)
      · have hk165 : decide (y151.f0 = 1) = true := decide_eq_true hg164
        refine TL.cons (TO.val (Wt.yes rfl rfl rfl hk165) rfl rfl (Val.fieldAddrB Try.underlying28 rfl sz26 rfl rfl rfl) ?_)
        refine TL.cons (TO.val (Wt.yes rfl rfl rfl hk165) rfl rfl (Val.loadB 1 agg26 rfl rfl rfl) ?_)
        obtain ⟨y166, hx167, h⟩ := bind_no h
        obtain ⟨ad168, cs174, hA169, hi170, hj171, hcl172, hK173⟩ := Rd.at rd149 hx167
        obtain ⟨A175, c176, rfl, hr177, hl178⟩ := k30_openR hK173
        refine TL.cons (TO.val (Wt.yes rfl rfl rfl hk165) rfl rfl (Val.indexAddr Try.underlying26 sz30 rfl hA169 rfl hi170 hj171) ?_)
        refine TL.cons (TO.val (Wt.yes rfl rfl rfl hk165) rfl rfl (Val.fieldAddrE Try.underlying30 rfl sz3 rfl rfl) ?_)
        refine TL.cons (TO.val (Wt.yes rfl rfl rfl hk165) rfl rfl (Val.loadS agg3 rfl (hcl172 3 _ rfl)) ?_)
        refine TL.cons (TO.val (Wt.yes rfl rfl rfl hk165) rfl rfl (Val.cmp rfl rfl run_eql) ?_)
        refine TL.cons (TO.val rfl rfl rfl (Val.pickY rfl hk165 rfl) ?_)
        refine TL.cons (TO.val rfl rfl rfl (Val.move rfl) ?_)
        refine TK.split (p := y166.f3 = 3) h (fun hg179 h => ?_) (fun hg179 h => ?_)
        · have hk180 : decide (y166.f3 = 3) = true := decide_eq_true hg179
          obtain ⟨y181, hy182, h⟩ := bind_no h
          refine TL.cons (TL.callV (Lin := []) (args := []) (Wt.yes rfl rfl rfl hk180) rfl rfl hb33 rfl rfl (swagelaw23_some.calls hy182) rfl ?_)
          rintro _ _ _ _ ⟨rfl, A183, c184, rfl, rfl⟩
          refine TL.cons (TL.buildSlice (xs := [.tmp 31]) (vs := [.agg #[.slice A183 y181.f0.length c184, .int .i64 y181.f1.f0, .int .i64 y181.f1.f1, .int .i64 y181.f1.f2, .int .i64 y181.f1.f3]]) (cs := [.slice A183 y181.f0.length c184, .int .i64 y181.f1.f0, .int .i64 y181.f1.f1, .int .i64 y181.f1.f2, .int .i64 y181.f1.f3]) (Wt.yes rfl rfl rfl hk180) rfl Try.underlying34 zs28 rfl rfl rfl rfl rfl rfl rfl rfl (fun b186 => ?_))
          refine TL.cons (TO.val (Wt.yes rfl rfl rfl hk180) rfl rfl (Val.build (cs := [.int .i64 0, .slice (some ⟨b186, 0, none⟩) 1 1]) (is := [1]) (xs := [.tmp 32]) Try.underlying36 zr36 bld36 rfl rfl rfl rfl) ?_)
          refine TK.new (Els.nil k28) ?_
          refine TK.sel (Ls := [Row k30 30 (.slice A183 y181.f0.length c184) y181.f0, Els k28 [] [], Blk b186 [.slice A183 y181.f0.length c184, .int .i64 y181.f1.f0, .int .i64 y181.f1.f1, .int .i64 y181.f1.f2, .int .i64 y181.f1.f3] 28, Row k30 30 (.slice A3 y1.f0.length c4) y1.f0, Blk b17 [.slice A14 y12.f0.length c15, .int .i64 y12.f1.f0, .int .i64 y12.f1.f1, .int .i64 y12.f1.f2, .int .i64 y12.f1.f3] 28]) [2, 0, 1, 3, 4] 5 rfl rfl rfl ?_
          refine TK.conv (ch' := El k28 y181 [.slice A183 y181.f0.length c184, .int .i64 y181.f1.f0, .int .i64 y181.f1.f1, .int .i64 y181.f1.f2, .int .i64 y181.f1.f3]) (fun B W F hh => k28_mkM W B F y181 hh) ?_
          refine TK.sel (Ls := [Els k28 [] [], El k28 y181 [.slice A183 y181.f0.length c184, .int .i64 y181.f1.f0, .int .i64 y181.f1.f1, .int .i64 y181.f1.f2, .int .i64 y181.f1.f3], Blk b186 [.slice A183 y181.f0.length c184, .int .i64 y181.f1.f0, .int .i64 y181.f1.f1, .int .i64 y181.f1.f2, .int .i64 y181.f1.f3] 28, Row k30 30 (.slice A3 y1.f0.length c4) y1.f0, Blk b17 [.slice A14 y12.f0.length c15, .int .i64 y12.f1.f0, .int .i64 y12.f1.f1, .int .i64 y12.f1.f2, .int .i64 y12.f1.f3] 28]) [1, 0, 2, 3, 4] 5 rfl rfl rfl ?_
          refine TK.two (ch := Els k28 [y181] [.slice A183 y181.f0.length c184, .int .i64 y181.f1.f0, .int .i64 y181.f1.f1, .int .i64 y181.f1.f2, .int .i64 y181.f1.f3]) (Els.snoc k28) ?_
          refine TK.sel (Ls := [Blk b186 [.slice A183 y181.f0.length c184, .int .i64 y181.f1.f0, .int .i64 y181.f1.f1, .int .i64 y181.f1.f2, .int .i64 y181.f1.f3] 28, Els k28 [y181] [.slice A183 y181.f0.length c184, .int .i64 y181.f1.f0, .int .i64 y181.f1.f1, .int .i64 y181.f1.f2, .int .i64 y181.f1.f3], Row k30 30 (.slice A3 y1.f0.length c4) y1.f0, Blk b17 [.slice A14 y12.f0.length c15, .int .i64 y12.f1.f0, .int .i64 y12.f1.f1, .int .i64 y12.f1.f2, .int .i64 y12.f1.f3] 28]) [1, 0, 2, 3] 4 rfl rfl rfl ?_
          refine TK.two (ch := Row k28 28 (.slice (some ⟨b186, 0, none⟩) 1 1) ([y181] : List S28)) (Row.lit k28 rfl rfl) ?_
          refine TK.share (fun G188 e189 hs190 hb191 => ?_)
          have rd192 : Rd G188 k28 (some ⟨b186, 0, none⟩) ([y181] : List S28) := Rd.row hs190
          have le193 : ([y181] : List S28).length ≤ 1 := Row.le hs190
          obtain ⟨y194, hy195, h⟩ := bind_no h
          refine TL.cons (TL.callV (Lin := []) (args := [.agg #[.int .i64 0, .slice (some ⟨b186, 0, none⟩) 1 1]]) (Wt.yes rfl rfl rfl hk180) rfl rfl hb12 rfl rfl (deadstore_Stores.calls (a0 := (⟨0, ([y181] : List S28)⟩ : S36)) rd192 le193 hy195) rfl ?_)
          rintro _ _ _ _ ⟨rfl, rfl, rfl⟩
          refine TL.cons (TO.val (Wt.yes rfl rfl rfl hk180) rfl rfl (Val.cmp rfl rfl run_eql) ?_)
          refine TL.cons (TO.val rfl rfl rfl (Val.pickY rfl hk180 rfl) ?_)
          refine TL.cons (TO.val rfl rfl rfl (Val.assign rfl) ?_)
          refine TL.nil ?_
          refine TQ.then_ ?_
          refine TC.ret ?_
          refine TQ.back hb191 ?_
          refine TQ.back hb148 ?_
          refine TQ.back hb136 ?_
          refine TQ.back hb129 ?_
          refine TQ.back hb117 ?_
          obtain rfl := Option.some.inj h
          exact TQ.done (Ls := []) (.inl rfl) [] 7 Try.results9 (.tmp rfl .nil) rfl (Gd.le.refl _) rfl rfl rfl ⟨rfl, rfl, rfl⟩
        · have hk196 : decide (y166.f3 = 3) = false := decide_eq_false hg179
          refine TL.cons (TL.not (Wt.no rfl rfl rfl hk196) rfl ?_)
          refine TL.cons (TL.not (Wt.no rfl rfl rfl hk196) rfl ?_)
          refine TL.cons (TL.not (Wt.no rfl rfl rfl hk196) rfl ?_)
          refine TL.cons (TL.not (Wt.no rfl rfl rfl hk196) rfl ?_)
          refine TL.cons (TL.not (Wt.no rfl rfl rfl hk196) rfl ?_)
          refine TL.cons (TO.val rfl rfl rfl (Val.pickN rfl hk196 rfl) ?_)
          refine TL.cons (TO.val rfl rfl rfl (Val.assign rfl) ?_)
          refine TL.nil ?_
          refine TQ.then_ ?_
          refine TC.ret ?_
          refine TQ.back hb148 ?_
          refine TQ.back hb136 ?_
          refine TQ.back hb129 ?_
          refine TQ.back hb117 ?_
          obtain rfl := Option.some.inj h
          exact TQ.done (Ls := []) (.inl rfl) [] 6 Try.results9 (.tmp rfl .nil) rfl (Gd.le.refl _) rfl rfl rfl ⟨rfl, rfl, rfl⟩
      · have hk197 : decide (y151.f0 = 1) = false := decide_eq_false hg164
        refine TL.cons (TL.not (Wt.no rfl rfl rfl hk197) rfl ?_)
        refine TL.cons (TL.not (Wt.no rfl rfl rfl hk197) rfl ?_)
        refine TL.cons (TL.not (Wt.no rfl rfl rfl hk197) rfl ?_)
        refine TL.cons (TL.not (Wt.no rfl rfl rfl hk197) rfl ?_)
        refine TL.cons (TL.not (Wt.no rfl rfl rfl hk197) rfl ?_)
        refine TL.cons (TL.not (Wt.no rfl rfl rfl hk197) rfl ?_)
        refine TL.cons (TO.val rfl rfl rfl (Val.pickN rfl hk197 rfl) ?_)
        refine TL.cons (TO.val rfl rfl rfl (Val.move rfl) ?_)
        refine TL.cons (TL.not (Wt.no rfl rfl rfl rfl) rfl ?_)
        refine TL.cons (TL.not (Wt.no rfl rfl rfl rfl) rfl ?_)
        refine TL.cons (TL.not (Wt.no rfl rfl rfl rfl) rfl ?_)
        refine TL.cons (TL.not (Wt.no rfl rfl rfl rfl) rfl ?_)
        refine TL.cons (TL.not (Wt.no rfl rfl rfl rfl) rfl ?_)
        refine TL.cons (TO.val rfl rfl rfl (Val.pickN rfl rfl rfl) ?_)
        refine TL.cons (TO.val rfl rfl rfl (Val.assign rfl) ?_)
        refine TL.nil ?_
        refine TQ.then_ ?_
        refine TC.ret ?_
        refine TQ.back hb148 ?_
        refine TQ.back hb136 ?_
        refine TQ.back hb129 ?_
        refine TQ.back hb117 ?_
        obtain rfl := Option.some.inj h
        exact TQ.done (Ls := []) (.inl rfl) [] 6 Try.results9 (.tmp rfl .nil) rfl (Gd.le.refl _) rfl rfl rfl ⟨rfl, rfl, rfl⟩
    · have hk198 : decide ((y12.f0.length : Int) = 2) = false := decide_eq_false hg143
      refine TL.cons (TL.not (Wt.no rfl rfl rfl hk198) rfl ?_)
      refine TL.cons (TL.not (Wt.no rfl rfl rfl hk198) rfl ?_)
      refine TL.cons (TL.not (Wt.no rfl rfl rfl hk198) rfl ?_)
      refine TL.cons (TL.not (Wt.no rfl rfl rfl hk198) rfl ?_)
      refine TL.cons (TL.not (Wt.no rfl rfl rfl hk198) rfl ?_)
      refine TL.cons (TL.not (Wt.no rfl rfl rfl hk198) rfl ?_)
      refine TL.cons (TO.val rfl rfl rfl (Val.pickN rfl hk198 rfl) ?_)
      refine TL.cons (TO.val rfl rfl rfl (Val.move rfl) ?_)
      refine TL.cons (TL.not (Wt.no rfl rfl rfl rfl) rfl ?_)
      refine TL.cons (TL.not (Wt.no rfl rfl rfl rfl) rfl ?_)
      refine TL.cons (TL.not (Wt.no rfl rfl rfl rfl) rfl ?_)
      refine TL.cons (TL.not (Wt.no rfl rfl rfl rfl) rfl ?_)
      refine TL.cons (TL.not (Wt.no rfl rfl rfl rfl) rfl ?_)
      refine TL.cons (TL.not (Wt.no rfl rfl rfl rfl) rfl ?_)
      refine TL.cons (TO.val rfl rfl rfl (Val.pickN rfl rfl rfl) ?_)
      refine TL.cons (TO.val rfl rfl rfl (Val.move rfl) ?_)
      refine TL.cons (TL.not (Wt.no rfl rfl rfl rfl) rfl ?_)
      refine TL.cons (TL.not (Wt.no rfl rfl rfl rfl) rfl ?_)
      refine TL.cons (TL.not (Wt.no rfl rfl rfl rfl) rfl ?_)
      refine TL.cons (TL.not (Wt.no rfl rfl rfl rfl) rfl ?_)
      refine TL.cons (TL.not (Wt.no rfl rfl rfl rfl) rfl ?_)
      refine TL.cons (TO.val rfl rfl rfl (Val.pickN rfl rfl rfl) ?_)
      refine TL.cons (TO.val rfl rfl rfl (Val.assign rfl) ?_)
      refine TL.nil ?_
      refine TQ.then_ ?_
      refine TC.ret ?_
      refine TQ.back hb136 ?_
      refine TQ.back hb129 ?_
      refine TQ.back hb117 ?_
      obtain rfl := Option.some.inj h
      exact TQ.done (Ls := []) (.inl rfl) [] 6 Try.results9 (.tmp rfl .nil) rfl (Gd.le.refl _) rfl rfl rfl ⟨rfl, rfl, rfl⟩
  · have hk199 : y139 = false := (by simpa using hg141)
    refine TL.cons (TL.not (Wt.no rfl rfl rfl hk199) rfl ?_)
    refine TL.cons (TL.not (Wt.no rfl rfl rfl hk199) rfl ?_)
    refine TL.cons (TL.not (Wt.no rfl rfl rfl hk199) rfl ?_)
    refine TL.cons (TL.not (Wt.no rfl rfl rfl hk199) rfl ?_)
    refine TL.cons (TO.val rfl rfl rfl (Val.pickN rfl hk199 rfl) ?_)
    refine TL.cons (TO.val rfl rfl rfl (Val.move rfl) ?_)
    refine TL.cons (TL.not (Wt.no rfl rfl rfl rfl) rfl ?_)
    refine TL.cons (TL.not (Wt.no rfl rfl rfl rfl) rfl ?_)
    refine TL.cons (TL.not (Wt.no rfl rfl rfl rfl) rfl ?_)
    refine TL.cons (TL.not (Wt.no rfl rfl rfl rfl) rfl ?_)
    refine TL.cons (TL.not (Wt.no rfl rfl rfl rfl) rfl ?_)
    refine TL.cons (TL.not (Wt.no rfl rfl rfl rfl) rfl ?_)
    refine TL.cons (TO.val rfl rfl rfl (Val.pickN rfl rfl rfl) ?_)
    refine TL.cons (TO.val rfl rfl rfl (Val.move rfl) ?_)
    refine TL.cons (TL.not (Wt.no rfl rfl rfl rfl) rfl ?_)
    refine TL.cons (TL.not (Wt.no rfl rfl rfl rfl) rfl ?_)
    refine TL.cons (TL.not (Wt.no rfl rfl rfl rfl) rfl ?_)
    refine TL.cons (TL.not (Wt.no rfl rfl rfl rfl) rfl ?_)
    refine TL.cons (TL.not (Wt.no rfl rfl rfl rfl) rfl ?_)
    refine TL.cons (TL.not (Wt.no rfl rfl rfl rfl) rfl ?_)
    refine TL.cons (TO.val rfl rfl rfl (Val.pickN rfl rfl rfl) ?_)
    refine TL.cons (TO.val rfl rfl rfl (Val.move rfl) ?_)
    refine TL.cons (TL.not (Wt.no rfl rfl rfl rfl) rfl ?_)
    refine TL.cons (TL.not (Wt.no rfl rfl rfl rfl) rfl ?_)
    refine TL.cons (TL.not (Wt.no rfl rfl rfl rfl) rfl ?_)
    refine TL.cons (TL.not (Wt.no rfl rfl rfl rfl) rfl ?_)
    refine TL.cons (TL.not (Wt.no rfl rfl rfl rfl) rfl ?_)
    refine TL.cons (TO.val rfl rfl rfl (Val.pickN rfl rfl rfl) ?_)
    refine TL.cons (TO.val rfl rfl rfl (Val.assign rfl) ?_)
    refine TL.nil ?_
    refine TQ.then_ ?_
    refine TC.ret ?_
    refine TQ.back hb136 ?_
    refine TQ.back hb129 ?_
    refine TQ.back hb117 ?_
    obtain rfl := Option.some.inj h
    exact TQ.done (Ls := []) (.inl rfl) [] 6 Try.results9 (.tmp rfl .nil) rfl (Gd.le.refl _) rfl rfl rfl ⟨rfl, rfl, rfl⟩
end Go.Proofs.Ytmacdhkfgoahcaa.Sx
set_option linter.unusedVariables false
set_option linter.unusedSimpArgs false
set_option maxRecDepth 100000
set_option maxHeartbeats 4000000
namespace Go.Proofs.Ytmacdhkfgoahcaa.Sx
open Go Go.RowKit Go.Proofs.YtmacdhkfgoahcaaW.PrintWords Go.Proofs.Ytmacdhkfgoahcaa.Q
def swagelaw23_DeadChain.l0 (a0 : (List Int)) : Nat → Int → Int → (List S30) → Option (Int × (List S30))
  | 0, _, _, _ => none
  | n264 + 1, x176, x177, l178 => (if x177 < (a0.length : Int) then (at? a0 x177).bind fun y350 => jn (fun (x370 : Int) (l371 : (List S30)) => swagelaw23_DeadChain.l0 a0 n264 x370 (IntKind.i64.wrap (x177 + 1)) l371) (fun j375 => (if (IntKind.i64.wrap (BitVec.ofInt IntKind.i64.bits y350 &&& BitVec.ofInt IntKind.i64.bits 1).toNat) = 0 then (if l178.length < 2199023255552 then j375 (IntKind.i64.wrap (x176 + 1)) (l178 ++ [(⟨5, 0, 1, 2, 3, ([] : List Int)⟩ : S30)]) else none) else (if l178.length < 2199023255552 then j375 x176 (l178 ++ [(⟨1, 2, 0, 0, x177, ([] : List Int)⟩ : S30)]) else none))) else some (x176, l178))
def swagelaw23_DeadChain.f (a0 : (List Int)) : Option Bool := (swagelaw23_small.f).bind fun (y5 : Bool) => (if 60 < (a0.length : Int) then some y5 else (swagelaw23_DeadChain.l0 a0 (a0.length + 1) 0 0 []).bind fun (x258, l259) => (deadstore_Dead.f (⟨l259, (⟨3, 2, 0, 0⟩ : S25)⟩ : S28)).bind fun (y272 : (List Int)) => (deadstore_Block.f (⟨l259, (⟨3, 2, 0, 0⟩ : S25)⟩ : S28)).bind fun (y277 : S28) => (deadstore_Stores.f (⟨0, ([y277] : List S28)⟩ : S36)).bind fun (y291 : Int) => (if y5 = true then (if (y272.length : Int) = (if (IntKind.i64.wrap (x258 - 1)) < 0 then 0 else IntKind.i64.wrap (x258 - 1)) then (if y291 = (if 1 < x258 then 1 else x258) then some (decide ((y277.f0.length : Int) = (IntKind.i64.wrap ((IntKind.i64.wrap ((a0.length : Int) - x258)) + y291)))) else some false) else some false) else some false))
def swagelaw23_DeadChain.post (G : Gd) (r : Bool) (v : Value) (G' : Gd) (Lr : List Ch) : Prop := G = G' ∧ v = .bool r ∧ Lr = []
theorem swagelaw23_DeadChain.calls {G : Gd} {r : Bool} {a0 : (List Int)} {A1 : Option Addr} {c2 : Nat} (hr3 : Rd G (Kd.int .i64) A1 a0) (hl4 : a0.length ≤ c2) (h : swagelaw23_DeadChain.f a0 = some r) : Fn Try.prog 3 G [] [.slice A1 a0.length c2] (swagelaw23_DeadChain.post G r) := by
  refine Fn.intro Try.func3 rfl Try.ntmps3 rfl (Nat.le_of_ble_eq_true rfl) (fun L => ?_)
  unfold swagelaw23_DeadChain.f at h
  refine TC.seq ?_
  refine TC.region ?_
  refine TL.cons (TO.val rfl rfl rfl (Val.assign rfl) ?_)
  refine TL.nil ?_
  refine TQ.then_ ?_
  refine TC.seq ?_
  refine TC.region ?_
  obtain ⟨y5, hy6, h⟩ := bind_no h
  refine TL.cons (TL.callV (Lin := []) (args := []) rfl rfl rfl hb9 rfl rfl (swagelaw23_small.calls hy6) rfl ?_)
  rintro _ _ _ _ ⟨rfl, rfl, rfl⟩
  refine TL.cons (TO.val rfl rfl rfl (Val.assign rfl) ?_)
  refine TL.nil ?_
  refine TQ.then_ ?_
  refine TC.seq ?_
  refine TC.seq ?_
  refine TC.region ?_
  refine TL.cons (TO.val rfl rfl rfl (Val.move rfl) ?_)
  refine TL.cons (TO.val rfl rfl rfl (Val.len Try.underlying22 rfl) ?_)
  refine TL.cons (TO.val rfl rfl rfl (Val.cmp rfl rfl run_gtr) ?_)
  refine TL.nil ?_
  refine TQ.then_ ?_
  refine TC.cond_p rfl h (fun hc8 h => ?_) (fun hc8 h => ?_)
  · refine TC.seq ?_
    refine TC.region ?_
    refine TL.cons (TO.val rfl rfl rfl (Val.move rfl) ?_)
    refine TL.cons (TO.val rfl rfl rfl (Val.assign rfl) ?_)
    refine TL.nil ?_
    refine TQ.then_ ?_
    refine TC.ret ?_
    refine TQ.thenR ?_
    obtain rfl := Option.some.inj h
    exact TQ.done (Ls := []) (.inl rfl) [] 0 Try.results3 (.tmp rfl .nil) rfl (Gd.le.refl _) rfl rfl rfl ⟨rfl, rfl, rfl⟩
  · refine TC.skip ?_
    refine TQ.then_ ?_
    refine TC.seq ?_
    refine TC.region ?_
    refine TL.cons (TO.val rfl rfl rfl (Val.build (cs := [.int .i64 3, .int .i64 2, .int .i64 0, .int .i64 0]) (is := [0, 1]) (xs := [.const (.int .i64 3), .const (.int .i64 2)]) Try.underlying25 zr25 bld25 rfl rfl rfl rfl) ?_)
    refine TL.cons (TO.val rfl rfl rfl (Val.build (cs := [.slice none 0 0, .int .i64 3, .int .i64 2, .int .i64 0, .int .i64 0]) (is := [1]) (xs := [.tmp 15]) Try.underlying28 zr28 bld28 rfl rfl rfl rfl) ?_)
    refine TL.cons (TL.alloc (cs := [.slice none 0 0, .int .i64 0, .int .i64 0, .int .i64 0, .int .i64 0]) rfl rfl zr28 rfl (fun b9 => ?_))
    refine TL.cons (TL.store 0 (ds := [.slice none 0 0, .int .i64 3, .int .i64 2, .int .i64 0, .int .i64 0]) (cs' := [.slice none 0 0, .int .i64 3, .int .i64 2, .int .i64 0, .int .i64 0]) (L' := (Blk b9 [.slice none 0 0, .int .i64 3, .int .i64 2, .int .i64 0, .int .i64 0] 28 :: L)) rfl sz28 rfl rfl rfl rfl rfl (Nat.le_of_ble_eq_true rfl) rfl rfl ?_)
    refine TL.nil ?_
    refine TQ.then_ ?_
    refine TC.seq ?_
    refine TC.region ?_
    refine TL.cons (TO.val rfl rfl rfl (Val.assign rfl) ?_)
    refine TL.nil ?_
    refine TQ.then_ ?_
    refine TC.seq ?_
    refine TC.seq ?_
    refine TC.region ?_
    refine TL.cons (TO.val rfl rfl rfl (Val.assign rfl) ?_)
    refine TL.nil ?_
    refine TQ.then_ ?_
    obtain ⟨o263, ho263, ko263⟩ := bind_no h
    clear h
    refine TC.tail (fun a W => ∃ (x258 : Int) (l259 : (List S30)) (A260 : Option Addr) (c261 : Nat), (x258, l259) = o263 ∧ Fr 79 a [(0, .slice A1 a0.length c2), (3, .bool y5), (4, .pointer (some ⟨b9, 0, none⟩)), (5, .int .i64 x258)] ∧ Own G (Blk b9 [.slice A260 l259.length c261, .int .i64 3, .int .i64 2, .int .i64 0, .int .i64 0] 28 :: Row k30 30 (.slice A260 l259.length c261) l259 :: L) W) ?_ ?_
    · rintro a W ⟨x258, l259, A260, c261, rfl, hF, hO⟩
      have h := ko263
      clear ko263 ho263
      refine TQ.use ?_ hF hO
      clear hF hO
      refine TQ.then_ ?_
      refine TC.seq ?_
      refine TC.region ?_
      refine TL.cons (TO.val rfl rfl rfl (Val.loadsB 0 (cs := [.slice A260 l259.length c261, .int .i64 3, .int .i64 2, .int .i64 0, .int .i64 0]) agg28 sz28 rfl rfl rfl rfl) ?_)
      refine TK.sel (Ls := [Row k30 30 (.slice A260 l259.length c261) l259, Blk b9 [.slice A260 l259.length c261, .int .i64 3, .int .i64 2, .int .i64 0, .int .i64 0] 28]) [1, 0] 2 rfl rfl rfl ?_
      refine TK.share (fun G266 e267 hs268 hb269 => ?_)
      have rd270 : Rd G266 k30 A260 l259 := Rd.row hs268
      have le271 : l259.length ≤ c261 := Row.le hs268
      obtain ⟨y272, hy273, h⟩ := bind_no h
      refine TL.cons (TL.callV (Lin := []) (args := [.agg #[.slice A260 l259.length c261, .int .i64 3, .int .i64 2, .int .i64 0, .int .i64 0]]) rfl rfl rfl hb10 rfl rfl (deadstore_Dead.calls (a0 := (⟨l259, (⟨3, 2, 0, 0⟩ : S25)⟩ : S28)) rd270 le271 hy273) rfl ?_)
      rintro _ _ _ _ ⟨rfl, A274, c275, rfl, rfl⟩
      refine TL.cons (TO.val rfl rfl rfl (Val.assign rfl) ?_)
      refine TL.nil ?_
      refine TQ.then_ ?_
      refine TC.seq ?_
      refine TC.region ?_
      refine TL.cons (TO.val rfl rfl rfl (Val.loadsB 1 (cs := [.slice A260 l259.length c261, .int .i64 3, .int .i64 2, .int .i64 0, .int .i64 0]) agg28 sz28 rfl rfl rfl rfl) ?_)
      obtain ⟨y277, hy278, h⟩ := bind_no h
      refine TL.cons (TL.callV (Lin := []) (args := [.agg #[.slice A260 l259.length c261, .int .i64 3, .int .i64 2, .int .i64 0, .int .i64 0]]) rfl rfl rfl hb11 rfl rfl (deadstore_Block.calls (a0 := (⟨l259, (⟨3, 2, 0, 0⟩ : S25)⟩ : S28)) rd270 le271 hy278) rfl ?_)
      rintro _ _ _ _ ⟨rfl, A279, c280, rfl, rfl⟩
      refine TL.cons (TL.alloc (cs := [.slice none 0 0, .int .i64 0, .int .i64 0, .int .i64 0, .int .i64 0]) rfl rfl zr28 rfl (fun b282 => ?_))
      refine TL.cons (TL.store 0 (ds := [.slice A279 y277.f0.length c280, .int .i64 y277.f1.f0, .int .i64 y277.f1.f1, .int .i64 y277.f1.f2, .int .i64 y277.f1.f3]) (cs' := [.slice A279 y277.f0.length c280, .int .i64 y277.f1.f0, .int .i64 y277.f1.f1, .int .i64 y277.f1.f2, .int .i64 y277.f1.f3]) (L' := (Blk b282 [.slice A279 y277.f0.length c280, .int .i64 y277.f1.f0, .int .i64 y277.f1.f1, .int .i64 y277.f1.f2, .int .i64 y277.f1.f3] 28 :: Row k30 30 (.slice A279 y277.f0.length c280) y277.f0 :: Row (Kd.int .i64) 3 (.slice A274 y272.length c275) y272 :: Blk b9 [.slice A260 l259.length c261, .int .i64 3, .int .i64 2, .int .i64 0, .int .i64 0] 28 :: L)) rfl sz28 rfl rfl rfl rfl rfl (Nat.le_of_ble_eq_true rfl) rfl rfl ?_)
      refine TL.nil ?_
      refine TQ.then_ ?_
      refine TC.seq ?_
      refine TC.region ?_
      refine TL.cons (TO.val rfl rfl rfl (Val.loadsB 0 (cs := [.slice A279 y277.f0.length c280, .int .i64 y277.f1.f0, .int .i64 y277.f1.f1, .int .i64 y277.f1.f2, .int .i64 y277.f1.f3]) agg28 sz28 rfl rfl rfl rfl) ?_)
      refine TL.cons (TL.buildSlice (xs := [.tmp 48]) (vs := [.agg #[.slice A279 y277.f0.length c280, .int .i64 y277.f1.f0, .int .i64 y277.f1.f1, .int .i64 y277.f1.f2, .int .i64 y277.f1.f3]]) (cs := [.slice A279 y277.f0.length c280, .int .i64 y277.f1.f0, .int .i64 y277.f1.f1, .int .i64 y277.f1.f2, .int .i64 y277.f1.f3]) rfl rfl Try.underlying34 zs28 rfl rfl rfl rfl rfl rfl rfl rfl (fun b283 => ?_))
      refine TL.cons (TO.val rfl rfl rfl (Val.build (cs := [.int .i64 0, .slice (some ⟨b283, 0, none⟩) 1 1]) (is := [1]) (xs := [.tmp 49]) Try.underlying36 zr36 bld36 rfl rfl rfl rfl) ?_)
      refine TK.new (Els.nil k28) ?_
      refine TK.sel (Ls := [Row k30 30 (.slice A279 y277.f0.length c280) y277.f0, Els k28 [] [], Blk b283 [.slice A279 y277.f0.length c280, .int .i64 y277.f1.f0, .int .i64 y277.f1.f1, .int .i64 y277.f1.f2, .int .i64 y277.f1.f3] 28, Blk b282 [.slice A279 y277.f0.length c280, .int .i64 y277.f1.f0, .int .i64 y277.f1.f1, .int .i64 y277.f1.f2, .int .i64 y277.f1.f3] 28, Row (Kd.int .i64) 3 (.slice A274 y272.length c275) y272, Blk b9 [.slice A260 l259.length c261, .int .i64 3, .int .i64 2, .int .i64 0, .int .i64 0] 28]) [3, 0, 1, 2, 4, 5] 6 rfl rfl rfl ?_
      refine TK.conv (ch' := El k28 y277 [.slice A279 y277.f0.length c280, .int .i64 y277.f1.f0, .int .i64 y277.f1.f1, .int .i64 y277.f1.f2, .int .i64 y277.f1.f3]) (fun B W F hh => k28_mkM W B F y277 hh) ?_
      refine TK.sel (Ls := [Els k28 [] [], El k28 y277 [.slice A279 y277.f0.length c280, .int .i64 y277.f1.f0, .int .i64 y277.f1.f1, .int .i64 y277.f1.f2, .int .i64 y277.f1.f3], Blk b283 [.slice A279 y277.f0.length c280, .int .i64 y277.f1.f0, .int .i64 y277.f1.f1, .int .i64 y277.f1.f2, .int .i64 y277.f1.f3] 28, Blk b282 [.slice A279 y277.f0.length c280, .int .i64 y277.f1.f0, .int .i64 y277.f1.f1, .int .i64 y277.f1.f2, .int .i64 y277.f1.f3] 28, Row (Kd.int .i64) 3 (.slice A274 y272.length c275) y272, Blk b9 [.slice A260 l259.length c261, .int .i64 3, .int .i64 2, .int .i64 0, .int .i64 0] 28]) [1, 0, 2, 3, 4, 5] 6 rfl rfl rfl ?_
      refine TK.two (ch := Els k28 [y277] [.slice A279 y277.f0.length c280, .int .i64 y277.f1.f0, .int .i64 y277.f1.f1, .int .i64 y277.f1.f2, .int .i64 y277.f1.f3]) (Els.snoc k28) ?_
      refine TK.sel (Ls := [Blk b283 [.slice A279 y277.f0.length c280, .int .i64 y277.f1.f0, .int .i64 y277.f1.f1, .int .i64 y277.f1.f2, .int .i64 y277.f1.f3] 28, Els k28 [y277] [.slice A279 y277.f0.length c280, .int .i64 y277.f1.f0, .int .i64 y277.f1.f1, .int .i64 y277.f1.f2, .int .i64 y277.f1.f3], Blk b282 [.slice A279 y277.f0.length c280, .int .i64 y277.f1.f0, .int .i64 y277.f1.f1, .int .i64 y277.f1.f2, .int .i64 y277.f1.f3] 28, Row (Kd.int .i64) 3 (.slice A274 y272.length c275) y272, Blk b9 [.slice A260 l259.length c261, .int .i64 3, .int .i64 2, .int .i64 0, .int .i64 0] 28]) [1, 0, 2, 3, 4] 5 rfl rfl rfl ?_
      refine TK.two (ch := Row k28 28 (.slice (some ⟨b283, 0, none⟩) 1 1) ([y277] : List S28)) (Row.lit k28 rfl rfl) ?_
      refine TK.share (fun G285 e286 hs287 hb288 => ?_)
      have rd289 : Rd G285 k28 (some ⟨b283, 0, none⟩) ([y277] : List S28) := Rd.row hs287
      have le290 : ([y277] : List S28).length ≤ 1 := Row.le hs287
      obtain ⟨y291, hy292, h⟩ := bind_no h
      refine TL.cons (TL.callV (Lin := []) (args := [.agg #[.int .i64 0, .slice (some ⟨b283, 0, none⟩) 1 1]]) rfl rfl rfl hb12 rfl rfl (deadstore_Stores.calls (a0 := (⟨0, ([y277] : List S28)⟩ : S36)) rd289 le290 hy292) rfl ?_)
      rintro _ _ _ _ ⟨rfl, rfl, rfl⟩
      refine TL.cons (TO.val rfl rfl rfl (Val.assign rfl) ?_)
      refine TL.nil ?_
      refine TQ.then_ ?_
      refine TC.seq ?_
      refine TC.back hb288 ?_
      refine TC.back hb269 ?_
      refine TC.region ?_
      refine TL.cons (TO.val rfl rfl rfl (Val.move rfl) ?_)
      refine TL.cons (TO.val rfl rfl rfl (Val.move rfl) ?_)
      refine TK.split (p := y5 = true) h (fun hg302 h => ?_) (fun hg302 h => ?_)
      · have hk303 : y5 = true := hg302
        refine TL.cons (TO.val (Wt.yes rfl rfl rfl hk303) rfl rfl (Val.move rfl) ?_)
        refine TL.cons (TO.val (Wt.yes rfl rfl rfl hk303) rfl rfl (Val.len Try.underlying22 rfl) ?_)
        refine TL.cons (TO.val (Wt.yes rfl rfl rfl hk303) rfl rfl (Val.move rfl) ?_)
        refine TL.cons (TO.val (Wt.yes rfl rfl rfl hk303) rfl rfl (Val.cmp rfl rfl run_sub) ?_)
        refine TL.cons (TO.val (Wt.yes rfl rfl rfl hk303) rfl rfl (Val.max2 rfl rfl) ?_)
        refine TL.cons (TO.val (Wt.yes rfl rfl rfl hk303) rfl rfl (Val.cmp rfl rfl run_eql) ?_)
        refine TL.cons (TO.val rfl rfl rfl (Val.pickY rfl hk303 rfl) ?_)
        refine TL.cons (TO.val rfl rfl rfl (Val.move rfl) ?_)
        refine TK.split (p := (y272.length : Int) = (if (IntKind.i64.wrap (x258 - 1)) < 0 then 0 else IntKind.i64.wrap (x258 - 1))) h (fun hg304 h => ?_) (fun hg304 h => ?_)
        · have hk305 : decide ((y272.length : Int) = (if (IntKind.i64.wrap (x258 - 1)) < 0 then 0 else IntKind.i64.wrap (x258 - 1))) = true := decide_eq_true hg304
          refine TL.cons (TO.val (Wt.yes rfl rfl rfl hk305) rfl rfl (Val.move rfl) ?_)
          refine TL.cons (TO.val (Wt.yes rfl rfl rfl hk305) rfl rfl (Val.move rfl) ?_)
          refine TL.cons (TO.val (Wt.yes rfl rfl rfl hk305) rfl rfl (Val.min2 rfl rfl) ?_)
          refine TL.cons (TO.val (Wt.yes rfl rfl rfl hk305) rfl rfl (Val.cmp rfl rfl run_eql) ?_)
          refine TL.cons (TO.val rfl rfl rfl (Val.pickY rfl hk305 rfl) ?_)
          refine TL.cons (TO.val rfl rfl rfl (Val.move rfl) ?_)
          refine TK.split (p := y291 = (if 1 < x258 then 1 else x258)) h (fun hg306 h => ?_) (fun hg306 h => ?_)
          · have hk307 : decide (y291 = (if 1 < x258 then 1 else x258)) = true := decide_eq_true hg306
            refine TL.cons (TO.val (Wt.yes rfl rfl rfl hk307) rfl rfl (Val.fieldAddrB Try.underlying28 rfl sz26 rfl rfl rfl) ?_)
            refine TL.cons (TO.val (Wt.yes rfl rfl rfl hk307) rfl rfl (Val.loadB 2 agg26 rfl rfl rfl) ?_)
            refine TL.cons (TO.val (Wt.yes rfl rfl rfl hk307) rfl rfl (Val.len Try.underlying26 rfl) ?_)
            refine TL.cons (TO.val (Wt.yes rfl rfl rfl hk307) rfl rfl (Val.move rfl) ?_)
            refine TL.cons (TO.val (Wt.yes rfl rfl rfl hk307) rfl rfl (Val.len Try.underlying22 rfl) ?_)
            refine TL.cons (TO.val (Wt.yes rfl rfl rfl hk307) rfl rfl (Val.move rfl) ?_)
            refine TL.cons (TO.val (Wt.yes rfl rfl rfl hk307) rfl rfl (Val.cmp rfl rfl run_sub) ?_)
            refine TL.cons (TO.val (Wt.yes rfl rfl rfl hk307) rfl rfl (Val.move rfl) ?_)
            refine TL.cons (TO.val (Wt.yes rfl rfl rfl hk307) rfl rfl (Val.cmp rfl rfl run_add) ?_)
            refine TL.cons (TO.val (Wt.yes rfl rfl rfl hk307) rfl rfl (Val.cmp rfl rfl run_eql) ?_)
            refine TL.cons (TO.val rfl rfl rfl (Val.pickY rfl hk307 rfl) ?_)
            refine TL.cons (TO.val rfl rfl rfl (Val.assign rfl) ?_)
            refine TL.nil ?_
            refine TQ.then_ ?_
            refine TC.ret ?_
            obtain rfl := Option.some.inj h
            exact TQ.done (Ls := []) (.inl rfl) [] 5 Try.results3 (.tmp rfl .nil) rfl (Gd.le.refl _) rfl rfl rfl ⟨rfl, rfl, rfl⟩
          · have hk308 : decide (y291 = (if 1 < x258 then 1 else x258)) = false := decide_eq_false hg306
            refine TL.cons (TL.not (Wt.no rfl rfl rfl hk308) rfl ?_)
            refine TL.cons (TL.not (Wt.no rfl rfl rfl hk308) rfl ?_)
            refine TL.cons (TL.not (Wt.no rfl rfl rfl hk308) rfl ?_)
            refine TL.cons (TL.not (Wt.no rfl rfl rfl hk308) rfl ?_)
            refine TL.cons (TL.not (Wt.no rfl rfl rfl hk308) rfl ?_)
            refine TL.cons (TL.not (Wt.no rfl rfl rfl hk308) rfl ?_)
            refine TL.cons (TL.not (Wt.no rfl rfl rfl hk308) rfl ?_)
            refine TL.cons (TL.not (Wt.no rfl rfl rfl hk308) rfl ?_)
            refine TL.cons (TL.not (Wt.no rfl rfl rfl hk308) rfl ?_)
            refine TL.cons (TL.not (Wt.no rfl rfl rfl hk308) rfl ?_)
            refine TL.cons (TO.val rfl rfl rfl (Val.pickN rfl hk308 rfl) ?_)
            refine TL.cons (TO.val rfl rfl rfl (Val.assign rfl) ?_)
            refine TL.nil ?_
            refine TQ.then_ ?_
            refine TC.ret ?_
            obtain rfl := Option.some.inj h
            exact TQ.done (Ls := []) (.inl rfl) [] 5 Try.results3 (.tmp rfl .nil) rfl (Gd.le.refl _) rfl rfl rfl ⟨rfl, rfl, rfl⟩
        · have hk309 : decide ((y272.length : Int) = (if (IntKind.i64.wrap (x258 - 1)) < 0 then 0 else IntKind.i64.wrap (x258 - 1))) = false := decide_eq_false hg304
          refine TL.cons (TL.not (Wt.no rfl rfl rfl hk309) rfl ?_)
          refine TL.cons (TL.not (Wt.no rfl rfl rfl hk309) rfl ?_)
          refine TL.cons (TL.not (Wt.no rfl rfl rfl hk309) rfl ?_)
          refine TL.cons (TL.not (Wt.no rfl rfl rfl hk309) rfl ?_)
          refine TL.cons (TO.val rfl rfl rfl (Val.pickN rfl hk309 rfl) ?_)
          refine TL.cons (TO.val rfl rfl rfl (Val.move rfl) ?_)
          refine TL.cons (TL.not (Wt.no rfl rfl rfl rfl) rfl ?_)
          refine TL.cons (TL.not (Wt.no rfl rfl rfl rfl) rfl ?_)
          refine TL.cons (TL.not (Wt.no rfl rfl rfl rfl) rfl ?_)
          refine TL.cons (TL.not (Wt.no rfl rfl rfl rfl) rfl ?_)
          refine TL.cons (TL.not (Wt.no rfl rfl rfl rfl) rfl ?_)
          refine TL.cons (TL.not (Wt.no rfl rfl rfl rfl) rfl ?_)
          refine TL.cons (TL.not (Wt.no rfl rfl rfl rfl) rfl ?_)
          refine TL.cons (TL.not (Wt.no rfl rfl rfl rfl) rfl ?_)
          refine TL.cons (TL.not (Wt.no rfl rfl rfl rfl) rfl ?_)
          refine TL.cons (TL.not (Wt.no rfl rfl rfl rfl) rfl ?_)
          refine TL.cons (TO.val rfl rfl rfl (Val.pickN rfl rfl rfl) ?_)
          refine TL.cons (TO.val rfl rfl rfl (Val.assign rfl) ?_)
          refine TL.nil ?_
          refine TQ.then_ ?_
          refine TC.ret ?_
          obtain rfl := Option.some.inj h
          exact TQ.done (Ls := []) (.inl rfl) [] 5 Try.results3 (.tmp rfl .nil) rfl (Gd.le.refl _) rfl rfl rfl ⟨rfl, rfl, rfl⟩
      · have hk310 : y5 = false := (by simpa using hg302)
        refine TL.cons (TL.not (Wt.no rfl rfl rfl hk310) rfl ?_)
        refine TL.cons (TL.not (Wt.no rfl rfl rfl hk310) rfl ?_)
        refine TL.cons (TL.not (Wt.no rfl rfl rfl hk310) rfl ?_)
        refine TL.cons (TL.not (Wt.no rfl rfl rfl hk310) rfl ?_)
        refine TL.cons (TL.not (Wt.no rfl rfl rfl hk310) rfl ?_)
        refine TL.cons (TL.not (Wt.no rfl rfl rfl hk310) rfl ?_)
        refine TL.cons (TO.val rfl rfl rfl (Val.pickN rfl hk310 rfl) ?_)
        refine TL.cons (TO.val rfl rfl rfl (Val.move rfl) ?_)
        refine TL.cons (TL.not (Wt.no rfl rfl rfl rfl) rfl ?_)
        refine TL.cons (TL.not (Wt.no rfl rfl rfl rfl) rfl ?_)
        refine TL.cons (TL.not (Wt.no rfl rfl rfl rfl) rfl ?_)
        refine TL.cons (TL.not (Wt.no rfl rfl rfl rfl) rfl ?_)
        refine TL.cons (TO.val rfl rfl rfl (Val.pickN rfl rfl rfl) ?_)
        refine TL.cons (TO.val rfl rfl rfl (Val.move rfl) ?_)
        refine TL.cons (TL.not (Wt.no rfl rfl rfl rfl) rfl ?_)
        refine TL.cons (TL.not (Wt.no rfl rfl rfl rfl) rfl ?_)
        refine TL.cons (TL.not (Wt.no rfl rfl rfl rfl) rfl ?_)
        refine TL.cons (TL.not (Wt.no rfl rfl rfl rfl) rfl ?_)
        refine TL.cons (TL.not (Wt.no rfl rfl rfl rfl) rfl ?_)
        refine TL.cons (TL.not (Wt.no rfl rfl rfl rfl) rfl ?_)
        refine TL.cons (TL.not (Wt.no rfl rfl rfl rfl) rfl ?_)
        refine TL.cons (TL.not (Wt.no rfl rfl rfl rfl) rfl ?_)
        refine TL.cons (TL.not (Wt.no rfl rfl rfl rfl) rfl ?_)
        refine TL.cons (TL.not (Wt.no rfl rfl rfl rfl) rfl ?_)
        refine TL.cons (TO.val rfl rfl rfl (Val.pickN rfl rfl rfl) ?_)
        refine TL.cons (TO.val rfl rfl rfl (Val.assign rfl) ?_)
        refine TL.nil ?_
        refine TQ.then_ ?_
        refine TC.ret ?_
        obtain rfl := Option.some.inj h
        exact TQ.done (Ls := []) (.inl rfl) [] 5 Try.results3 (.tmp rfl .nil) rfl (Gd.le.refl _) rfl rfl rfl ⟨rfl, rfl, rfl⟩
    · refine TC.block ?_
      intro a W hF hO
      have hS : ∃ (x176 : Int) (x177 : Int) (l178 : (List S30)) (A179 : Option Addr) (c180 : Nat), swagelaw23_DeadChain.l0 a0 (a0.length + 1) x176 x177 l178 = some o263 ∧ Fr 79 a [(0, .slice A1 a0.length c2), (3, .bool y5), (4, .pointer (some ⟨b9, 0, none⟩)), (5, .int .i64 x176), (6, .int .i64 x177)] ∧ Own G (Blk b9 [.slice A179 l178.length c180, .int .i64 3, .int .i64 2, .int .i64 0, .int .i64 0] 28 :: Row k30 30 (.slice A179 l178.length c180) l178 :: L) W := by
        exact ⟨0, 0, [], none, 0, ho263, hF.sub ⟨rfl, rfl, rfl, rfl, rfl, trivial⟩, (Own.nilRow k30 30 hO).selT (Ls := [Blk b9 [.slice none ([] : List S30).length 0, .int .i64 3, .int .i64 2, .int .i64 0, .int .i64 0] 28, Row k30 30 (.slice none ([] : List S30).length 0) ([] : List S30)]) [1, 0] 2 rfl rfl rfl⟩
      clear hF hO ho263 ko263
      refine TC.loop (fun n264 a W => ∃ (x176 : Int) (x177 : Int) (l178 : (List S30)) (A179 : Option Addr) (c180 : Nat), swagelaw23_DeadChain.l0 a0 n264 x176 x177 l178 = some o263 ∧ Fr 79 a [(0, .slice A1 a0.length c2), (3, .bool y5), (4, .pointer (some ⟨b9, 0, none⟩)), (5, .int .i64 x176), (6, .int .i64 x177)] ∧ Own G (Blk b9 [.slice A179 l178.length c180, .int .i64 3, .int .i64 2, .int .i64 0, .int .i64 0] 28 :: Row k30 30 (.slice A179 l178.length c180) l178 :: L) W) ?_ ?_ hS
      · rintro a W ⟨x176, x177, l178, A179, c180, h, hF, hO⟩
        exact none_no h
      · clear hS
        rintro n264 a W ⟨x176, x177, l178, A179, c180, h, hF, hO⟩
        rw [swagelaw23_DeadChain.l0] at h
        refine TC.use ?_ hF hO
        clear hF hO
        refine TC.seq ?_
        refine TC.seq ?_
        refine TC.region ?_
        refine TL.cons (TO.val rfl rfl rfl (Val.move rfl) ?_)
        refine TL.cons (TO.val rfl rfl rfl (Val.move rfl) ?_)
        refine TL.cons (TO.val rfl rfl rfl (Val.len Try.underlying22 rfl) ?_)
        refine TL.cons (TO.val rfl rfl rfl (Val.cmp rfl rfl run_lss) ?_)
        refine TL.nil ?_
        refine TQ.then_ ?_
        refine TC.cond_p rfl h (fun hc312 h => ?_) (fun hc312 h => ?_)
        · refine TC.skip ?_
          refine TQ.then_ ?_
          refine TC.seq ?_
          refine TC.block ?_
          refine TC.seq ?_
          refine TC.region ?_
          refine TL.cons (TO.val rfl rfl rfl (Val.move rfl) ?_)
          refine TL.cons (TO.val rfl rfl rfl (Val.move rfl) ?_)
          obtain ⟨y350, hx351, h⟩ := bind_no h
          obtain ⟨ad352, cs358, hA353, hi354, hj355, hcl356, hK357⟩ := Rd.at hr3 hx351
          obtain rfl := RdK.int hK357
          refine TL.cons (TO.val rfl rfl rfl (Val.indexAddr Try.underlying22 sz3 rfl hA353 rfl hi354 hj355) ?_)
          refine TL.cons (TO.val rfl rfl rfl (Val.loadS agg3 rfl (hcl356 0 _ rfl)) ?_)
          refine TL.cons (TO.val rfl rfl rfl (Val.cmp rfl rfl run_and) ?_)
          refine TL.cons (TO.val rfl rfl rfl (Val.cmp rfl rfl run_eql) ?_)
          refine TL.nil ?_
          refine TQ.then_ ?_
          obtain ⟨j375, hj375, h⟩ := jn_no h
          refine TC.tail (fun a W => ∃ (x370 : Int) (l371 : (List S30)) (A372 : Option Addr) (c373 : Nat), j375 x370 l371 = some o263 ∧ Fr 79 a [(0, .slice A1 a0.length c2), (3, .bool y5), (4, .pointer (some ⟨b9, 0, none⟩)), (5, .int .i64 x370), (6, .int .i64 x177)] ∧ Own G (Blk b9 [.slice A372 l371.length c373, .int .i64 3, .int .i64 2, .int .i64 0, .int .i64 0] 28 :: Row k30 30 (.slice A372 l371.length c373) l371 :: L) W) ?_ ?_
          · rintro a W ⟨x370, l371, A372, c373, h, hF, hO⟩
            rw [hj375] at h
            refine TQ.use ?_ hF hO
            clear hF hO
            refine TQ.inB ?_
            refine TQ.then_ ?_
            refine TC.region ?_
            refine TL.cons (TO.val rfl rfl rfl (Val.move rfl) ?_)
            refine TL.cons (TO.val rfl rfl rfl (Val.cmp rfl rfl run_add) ?_)
            refine TL.cons (TO.val rfl rfl rfl (Val.assign rfl) ?_)
            refine TL.nil ?_
            exact fun a W hF hO => ⟨x370, IntKind.i64.wrap (x177 + 1), l371, A372, c373, h, hF.sub ⟨rfl, rfl, rfl, rfl, rfl, trivial⟩, hO.selT (Ls := [Blk b9 [.slice A372 l371.length c373, .int .i64 3, .int .i64 2, .int .i64 0, .int .i64 0] 28, Row k30 30 (.slice A372 l371.length c373) l371]) [0, 1] 2 rfl rfl rfl⟩
          · refine TC.cond_p rfl h (fun hc376 h => ?_) (fun hc376 h => ?_)
            · refine TC.seq ?_
              refine TC.region ?_
              refine TL.cons (TO.val rfl rfl rfl (Val.fieldAddrB Try.underlying28 rfl sz26 rfl rfl rfl) ?_)
              refine TL.cons (TO.val rfl rfl rfl (Val.loadB 0 agg26 rfl rfl rfl) ?_)
              refine TL.cons (TO.val rfl rfl rfl (Val.build (cs := [.int .i64 5, .int .i64 0, .int .i64 1, .int .i64 2, .int .i64 3, .slice none 0 0]) (is := [0, 2, 3, 4]) (xs := [.const (.int .i64 5), .const (.int .i64 1), .const (.int .i64 2), .const (.int .i64 3)]) Try.underlying30 zr30 bld30 rfl rfl rfl rfl) ?_)
              refine TL.cons (TL.buildSlice (xs := [.tmp 31]) (vs := [.agg #[.int .i64 5, .int .i64 0, .int .i64 1, .int .i64 2, .int .i64 3, .slice none 0 0]]) (cs := [.int .i64 5, .int .i64 0, .int .i64 1, .int .i64 2, .int .i64 3, .slice none 0 0]) rfl rfl Try.underlying26 zs30 rfl rfl rfl rfl rfl rfl rfl rfl (fun b377 => ?_))
              refine TK.new (Row.nil (Kd.int .i64) 3) ?_
              refine TK.conv (ch' := El k30 (⟨5, 0, 1, 2, 3, ([] : List Int)⟩ : S30) [.int .i64 5, .int .i64 0, .int .i64 1, .int .i64 2, .int .i64 3, .slice none 0 0]) (fun B W F hh => k30_mkM W B F (⟨5, 0, 1, 2, 3, ([] : List Int)⟩ : S30) hh) ?_
              refine TK.sel (Ls := [Row k30 30 (.slice A179 l178.length c180) l178, El k30 (⟨5, 0, 1, 2, 3, ([] : List Int)⟩ : S30) [.int .i64 5, .int .i64 0, .int .i64 1, .int .i64 2, .int .i64 3, .slice none 0 0], Blk b377 [.int .i64 5, .int .i64 0, .int .i64 1, .int .i64 2, .int .i64 3, .slice none 0 0] 30, Blk b9 [.slice A179 l178.length c180, .int .i64 3, .int .i64 2, .int .i64 0, .int .i64 0] 28]) [3, 0, 1, 2] 4 rfl rfl rfl ?_
              obtain ⟨ha379, h⟩ := ite_no h
              refine TL.cons (TL.append k30 rfl rfl Try.underlying26 inf30 rfl (Nat.le_of_ble_eq_true rfl) (Nat.le_of_ble_eq_true rfl) rfl rfl (by omega) (fun A380 c381 => ?_))
              refine TL.cons (TO.val rfl rfl rfl (Val.fieldAddrB Try.underlying28 rfl sz26 rfl rfl rfl) ?_)
              refine TL.cons (TL.store 1 (ds := [.slice A380 (l178 ++ [(⟨5, 0, 1, 2, 3, ([] : List Int)⟩ : S30)]).length c381]) (cs' := [.slice A380 (l178 ++ [(⟨5, 0, 1, 2, 3, ([] : List Int)⟩ : S30)]).length c381, .int .i64 3, .int .i64 2, .int .i64 0, .int .i64 0]) (L' := (Row k30 30 (.slice A380 (l178 ++ [(⟨5, 0, 1, 2, 3, ([] : List Int)⟩ : S30)]).length c381) (l178 ++ [(⟨5, 0, 1, 2, 3, ([] : List Int)⟩ : S30)]) :: Blk b9 [.slice A380 (l178 ++ [(⟨5, 0, 1, 2, 3, ([] : List Int)⟩ : S30)]).length c381, .int .i64 3, .int .i64 2, .int .i64 0, .int .i64 0] 28 :: L)) rfl sz26 rfl rfl rfl rfl rfl (Nat.le_of_ble_eq_true rfl) rfl rfl ?_)
              refine TL.nil ?_
              refine TQ.then_ ?_
              refine TC.region ?_
              refine TL.cons (TO.val rfl rfl rfl (Val.move rfl) ?_)
              refine TL.cons (TO.val rfl rfl rfl (Val.cmp rfl rfl run_add) ?_)
              refine TL.cons (TO.val rfl rfl rfl (Val.assign rfl) ?_)
              refine TL.nil ?_
              exact fun a W hF hO => ⟨IntKind.i64.wrap (x176 + 1), (l178 ++ [(⟨5, 0, 1, 2, 3, ([] : List Int)⟩ : S30)]), A380, c381, h, hF.sub ⟨rfl, rfl, rfl, rfl, rfl, trivial⟩, hO.selT (Ls := [Blk b9 [.slice A380 (l178 ++ [(⟨5, 0, 1, 2, 3, ([] : List Int)⟩ : S30)]).length c381, .int .i64 3, .int .i64 2, .int .i64 0, .int .i64 0] 28, Row k30 30 (.slice A380 (l178 ++ [(⟨5, 0, 1, 2, 3, ([] : List Int)⟩ : S30)]).length c381) (l178 ++ [(⟨5, 0, 1, 2, 3, ([] : List Int)⟩ : S30)])]) [1, 0] 2 rfl rfl rfl⟩
            · refine TC.region ?_
              refine TL.cons (TO.val rfl rfl rfl (Val.fieldAddrB Try.underlying28 rfl sz26 rfl rfl rfl) ?_)
              refine TL.cons (TO.val rfl rfl rfl (Val.loadB 0 agg26 rfl rfl rfl) ?_)
              refine TL.cons (TO.val rfl rfl rfl (Val.move rfl) ?_)
              refine TL.cons (TO.val rfl rfl rfl (Val.build (cs := [.int .i64 1, .int .i64 2, .int .i64 0, .int .i64 0, .int .i64 x177, .slice none 0 0]) (is := [0, 1, 4]) (xs := [.const (.int .i64 1), .const (.int .i64 2), .tmp 39]) Try.underlying30 zr30 bld30 rfl rfl rfl rfl) ?_)
              refine TL.cons (TL.buildSlice (xs := [.tmp 40]) (vs := [.agg #[.int .i64 1, .int .i64 2, .int .i64 0, .int .i64 0, .int .i64 x177, .slice none 0 0]]) (cs := [.int .i64 1, .int .i64 2, .int .i64 0, .int .i64 0, .int .i64 x177, .slice none 0 0]) rfl rfl Try.underlying26 zs30 rfl rfl rfl rfl rfl rfl rfl rfl (fun b382 => ?_))
              refine TK.new (Row.nil (Kd.int .i64) 3) ?_
              refine TK.conv (ch' := El k30 (⟨1, 2, 0, 0, x177, ([] : List Int)⟩ : S30) [.int .i64 1, .int .i64 2, .int .i64 0, .int .i64 0, .int .i64 x177, .slice none 0 0]) (fun B W F hh => k30_mkM W B F (⟨1, 2, 0, 0, x177, ([] : List Int)⟩ : S30) hh) ?_
              refine TK.sel (Ls := [Row k30 30 (.slice A179 l178.length c180) l178, El k30 (⟨1, 2, 0, 0, x177, ([] : List Int)⟩ : S30) [.int .i64 1, .int .i64 2, .int .i64 0, .int .i64 0, .int .i64 x177, .slice none 0 0], Blk b382 [.int .i64 1, .int .i64 2, .int .i64 0, .int .i64 0, .int .i64 x177, .slice none 0 0] 30, Blk b9 [.slice A179 l178.length c180, .int .i64 3, .int .i64 2, .int .i64 0, .int .i64 0] 28]) [3, 0, 1, 2] 4 rfl rfl rfl ?_
              obtain ⟨ha384, h⟩ := ite_no h
              refine TL.cons (TL.append k30 rfl rfl Try.underlying26 inf30 rfl (Nat.le_of_ble_eq_true rfl) (Nat.le_of_ble_eq_true rfl) rfl rfl (by omega) (fun A385 c386 => ?_))
              refine TL.cons (TO.val rfl rfl rfl (Val.fieldAddrB Try.underlying28 rfl sz26 rfl rfl rfl) ?_)
              refine TL.cons (TL.store 1 (ds := [.slice A385 (l178 ++ [(⟨1, 2, 0, 0, x177, ([] : List Int)⟩ : S30)]).length c386]) (cs' := [.slice A385 (l178 ++ [(⟨1, 2, 0, 0, x177, ([] : List Int)⟩ : S30)]).length c386, .int .i64 3, .int .i64 2, .int .i64 0, .int .i64 0]) (L' := (Row k30 30 (.slice A385 (l178 ++ [(⟨1, 2, 0, 0, x177, ([] : List Int)⟩ : S30)]).length c386) (l178 ++ [(⟨1, 2, 0, 0, x177, ([] : List Int)⟩ : S30)]) :: Blk b9 [.slice A385 (l178 ++ [(⟨1, 2, 0, 0, x177, ([] : List Int)⟩ : S30)]).length c386, .int .i64 3, .int .i64 2, .int .i64 0, .int .i64 0] 28 :: L)) rfl sz26 rfl rfl rfl rfl rfl (Nat.le_of_ble_eq_true rfl) rfl rfl ?_)
              refine TL.nil ?_
              exact fun a W hF hO => ⟨x176, (l178 ++ [(⟨1, 2, 0, 0, x177, ([] : List Int)⟩ : S30)]), A385, c386, h, hF.sub ⟨rfl, rfl, rfl, rfl, rfl, trivial⟩, hO.selT (Ls := [Blk b9 [.slice A385 (l178 ++ [(⟨1, 2, 0, 0, x177, ([] : List Int)⟩ : S30)]).length c386, .int .i64 3, .int .i64 2, .int .i64 0, .int .i64 0] 28, Row k30 30 (.slice A385 (l178 ++ [(⟨1, 2, 0, 0, x177, ([] : List Int)⟩ : S30)]).length c386) (l178 ++ [(⟨1, 2, 0, 0, x177, ([] : List Int)⟩ : S30)])]) [1, 0] 2 rfl rfl rfl⟩
        · refine TC.exit ?_
          refine TQ.thenX ?_
          refine TQ.thenX ?_
          refine TQ.inBX ?_
          exact fun a W hF hO => ⟨x176, l178, A179, c180, Option.some.inj h, hF.sub ⟨rfl, rfl, rfl, rfl, trivial⟩, hO.selT (Ls := [Blk b9 [.slice A179 l178.length c180, .int .i64 3, .int .i64 2, .int .i64 0, .int .i64 0] 28, Row k30 30 (.slice A179 l178.length c180) l178]) [0, 1] 2 rfl rfl rfl⟩
end Go.Proofs.Ytmacdhkfgoahcaa.Sx
set_option linter.unusedVariables false
set_option linter.unusedSimpArgs false
namespace Go.Proofs.Ytmacdhkfgoahcaa.Sx
open Go Go.RowKit Go.Proofs.YtmacdhkfgoahcaaW.PrintWords Go.Proofs.Ytmacdhkfgoahcaa.Q Go.Proofs.Ytmacdhkfgoahcaa.Fo Go.Proofs.Ytmacdhkfgoahcaa.De
theorem small_true : swagelaw23_small.f = some true := by kernel_rfl
def evn (x : Int) : Bool := decide (IntKind.i64.wrap (BitVec.ofInt IntKind.i64.bits x &&& BitVec.ofInt IntKind.i64.bits 1).toNat = 0)
def opE : S30 := ⟨5, 0, 1, 2, 3, []⟩
def opO (k : Nat) : S30 := ⟨1, 2, 0, 0, k, []⟩
def mk : Nat → List Int → List S30
  | _, [] => []
  | k, x :: r => (if evn x = true then opE else opO k) :: mk (k + 1) r
def cnt (l : List Int) : Nat := l.countP evn
theorem mk_length : ∀ (l : List Int) (k : Nat), (mk k l).length = l.length
  | [], _ => rfl
  | x :: r, k => by simp [mk, mk_length r]
theorem chain_l0 (a0 : List Int) (ha : a0.length ≤ 60) : ∀ (r : List Int) (k fuel n : Nat) (acc : List S30), a0.drop k = r → r.length < fuel → n ≤ k → k ≤ 60 → acc.length = k → swagelaw23_DeadChain.l0 a0 fuel n k acc = some (((n + cnt r : Nat) : Int), acc ++ mk k r)
  | _, _, 0, _, _, _, h, _, _, _ => by omega
  | [], k, fuel + 1, n, acc, h, _, _, _, _ => by
    have := drop_nil h
    unfold swagelaw23_DeadChain.l0
    rw [if_neg (by omega)]; simp [cnt, mk]
  | x :: r, k, fuel + 1, n, acc, h, hf, hn, hk, hacc => by
    obtain ⟨h1, h2, h3⟩ := drop_cons h
    simp only [List.length_cons] at hf
    unfold swagelaw23_DeadChain.l0
    rw [if_pos (by omega), at_nat, h1]
    simp only [Option.bind_some, jn]
    by_cases e : evn x = true
    · have e' := of_decide_eq_true e
      rw [if_pos e', if_pos (by omega), wrap_succ (by omega), wrap_succ (by omega), chain_l0 a0 ha r (k + 1) fuel (n + 1) _ h3 (by omega) (by omega) (by omega) (by simp [hacc])]
      simp only [mk, e, if_true, cnt, List.countP_cons]
      simp only [List.append_assoc, List.singleton_append]
      congr 3; omega
    · have e' : ¬ _ := fun he => e (decide_eq_true he)
      rw [if_neg e', if_pos (by omega), wrap_succ (by omega), chain_l0 a0 ha r (k + 1) fuel n _ h3 (by omega) (by omega) (by omega) (by simp [hacc])]
      simp only [mk, e, cnt, List.countP_cons]
      simp [opO]
theorem hit_mk : ∀ (r : List Int) (k : Nat), hit (bk (mk k r)) opE = decide (0 < cnt r)
  | [], k => by rfl
  | x :: r, k => by
    by_cases e : evn x = true
    · simp only [mk, e, if_true, bk]
      rw [hit_store _ (by rfl)]
      simp [cnt, List.countP_cons, e, opE]
    · simp only [mk, e, bk, if_false]
      rw [if_neg (by simp), hit_pure _ (by rfl) (by rfl), hit_mk r (k + 1)]
      have : (opE.f2 == setsI (opO k)) = false := by rfl
      rw [this]
      simp [cnt, List.countP_cons, e]
theorem deadP_opE (r : List Int) (k : Nat) : deadP (bk (mk k r)) opE = decide (0 < cnt r) := by
  rw [deadP_hit, hit_mk]; simp [opE]
theorem deadP_opO (t : St) (k : Nat) : deadP t (opO k) = false := by rw [deadP_hit]; simp [opO]
theorem keep_mk : ∀ (r : List Int) (k : Nat), (keep (mk k r)).length = r.length - cnt r + min (cnt r) 1 ∧ stores (keep (mk k r)) = min (cnt r) 1 ∧ (dd (mk k r)).count true = cnt r - 1 ∧ cnt r ≤ r.length
  | [], k => by simp [mk, keep, stores, dd, cnt]
  | x :: r, k => by
    obtain ⟨h1, h2, h3, h4⟩ := keep_mk r (k + 1)
    by_cases e : evn x = true
    · have hc : cnt (x :: r) = cnt r + 1 := by simp [cnt, List.countP_cons, e]
      rw [hc]
      simp only [mk, e, if_true, keep, dd, deadP_opE, decide_eq_true_eq, List.length_cons]
      by_cases h0 : 0 < cnt r
      · rw [if_pos h0, decide_eq_true h0]
        simp only [List.count_cons_self]
        omega
      · rw [if_neg h0, decide_eq_false h0]
        have hs : stores (opE :: keep (mk (k + 1) r)) = stores (keep (mk (k + 1) r)) + 1 := by simp [stores, List.countP_cons, opE]
        rw [hs]
        simp only [List.length_cons, List.count_cons]
        simp
        omega
    · have hc : cnt (x :: r) = cnt r := by simp [cnt, List.countP_cons, e]
      have he : evn x = false := by simpa using e
      rw [hc]
      simp only [mk, he, Bool.false_eq_true, if_false, keep, dd, deadP_opO, List.length_cons]
      have hs : stores (opO k :: keep (mk (k + 1) r)) = stores (keep (mk (k + 1) r)) := by simp [stores, List.countP_cons, opO]
      rw [hs, List.count_cons]
      simp
      omega
theorem idx_length : ∀ (bs : List Bool) (i : Nat), (idx i bs).length = bs.count true
  | [], _ => rfl
  | true :: r, i => by simp [idx, idx_length r]
  | false :: r, i => by simp [idx, idx_length r]
theorem mk_fit : ∀ (r : List Int) (k : Nat), k + r.length ≤ 60 → ∀ x ∈ mk k r, WfOp x ∧ x.f5 = []
  | [], _, _, x, h => by cases h
  | y :: r, k, hk, x, h => by
    simp only [List.length_cons] at hk
    rcases List.mem_cons.1 h with rfl | h
    · split
      · exact ⟨⟨by decide, by decide, by decide, by decide, fun r hr => by cases hr⟩, rfl⟩
      · exact ⟨⟨(wf_iff 2).2 (by omega), (wf_iff 0).2 (by omega), (wf_iff 0).2 (by omega), (wf_iff (k : Int)).2 (by omega), fun r hr => by cases hr⟩, rfl⟩
    · exact mk_fit r (k + 1) (by omega) x h
theorem deadChain_true (a0 : List Int) (_ : a0.length ≤ maxLen ∧ ∀ y ∈ a0, (Lit.int .i64 y).wf = true) : swagelaw23_DeadChain.f a0 = some true := by
  unfold swagelaw23_DeadChain.f
  rw [small_true]
  simp only [Option.bind_some]
  by_cases h : 60 < (a0.length : Int)
  · rw [if_pos h]
  · have hl : a0.length ≤ 60 := by omega
    have hc : swagelaw23_DeadChain.l0 a0 (a0.length + 1) 0 0 [] = some (((0 + cnt a0 : Nat) : Int), [] ++ mk 0 a0) := chain_l0 a0 hl a0 0 _ 0 [] (by simp) (by omega) (by omega) (by omega) rfl
    rw [if_neg h, hc]
    simp only [Option.bind_some, List.nil_append, Nat.zero_add]
    obtain ⟨k1, k2, k3, k4⟩ := keep_mk a0 0
    have hm := mk_length a0 0
    have hfit : Fit (mk 0 a0) := ⟨fun x hx => (mk_fit a0 0 (by omega) x hx).1, by omega, fun x hx => by rw [(mk_fit a0 0 (by omega) x hx).2]; decide⟩
    rw [dead_f hfit, block_f (a0 := ⟨mk 0 a0, ⟨3, 2, 0, 0⟩⟩) hfit]
    simp only [Option.bind_some]
    have hkl := keep_length (mk 0 a0)
    rw [stores_f (a0 := ⟨0, [⟨keep (mk 0 a0), ⟨3, 2, 0, 0⟩⟩]⟩) (by simp [sizeB]; omega) (by simp)]
    simp only [Option.bind_some, storesB, List.map_cons, List.map_nil, List.sum_cons, List.sum_nil, Nat.add_zero, k2, k1]
    have hd : (deadL (mk 0 a0)).length = cnt a0 - 1 := by rw [deadL_idx, idx_length, k3]
    rw [hd, wrap_small (by omega) (by omega), wrap_small (n := (a0.length : Int) - (cnt a0 : Int)) (by omega) (by omega), wrap_small (by omega) (by omega)]
    simp only [if_true]
    rw [if_pos (by split <;> omega), if_pos (by split <;> omega)]
    congr 1
    simp only [decide_eq_true_eq]
    omega
end Go.Proofs.Ytmacdhkfgoahcaa.Sx
