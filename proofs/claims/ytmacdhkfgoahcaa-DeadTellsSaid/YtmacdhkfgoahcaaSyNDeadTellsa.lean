/- Texts of this work, joined: SyDead, SyKT, SyOp, SyF37, SyF38, SyF11, DtA, SyF12, DtB, SyF13, DtD, SyF14, SyF19, SyF21, SyF16, DtC, SyF39, SyF15, DtE, SyF33, SyF9, SyF64. -/
import Derived.Test.YtmacdhkfgoahcaaSyMM
import Derived.Test.YtmacdhkfgoahcaaZqDeD
import Derived.Test.YtmacdhkfgoahcaaZqQx0
set_option linter.unusedVariables false
namespace Go.Proofs.Ytmacdhkfgoahcaa.Sy
open Go Go.RowKit Go.Proofs.YtmacdhkfgoahcaaW.PrintWords Go.Proofs.Ytmacdhkfgoahcaa.Q Go.Proofs.Ytmacdhkfgoahcaa.Fo Go.Proofs.Ytmacdhkfgoahcaa.De
instance (n : Int) : Decidable (wf n) := by unfold wf; infer_instance
instance (x : S30) : Decidable (WfOp x) := decidable_of_iff (wf x.f1 ∧ wf x.f2 ∧ wf x.f3 ∧ wf x.f4 ∧ ∀ r ∈ x.f5, wf r) ⟨fun h => ⟨h.1, h.2.1, h.2.2.1, h.2.2.2.1, h.2.2.2.2⟩, fun h => ⟨h.h1, h.h2, h.h3, h.h4, h.h5⟩⟩
def deadstore_Dead.f (a0 : S28) : Option (List Int) := if (∀ x ∈ a0.f0, WfOp x) ∧ a0.f0.length < 1099511627776 then some (deadL a0.f0) else none
def deadstore_Dead.post (G : Gd) (r : (List Int)) (v : Value) (G' : Gd) (Lr : List Ch) : Prop := G = G' ∧ ∃ (A_1 : Option Addr) (c_1 : Nat), v = .slice A_1 r.length c_1 ∧ Lr = [Row (Kd.int .i64) 3 (.slice A_1 r.length c_1) r]
theorem deadstore_Dead.calls {G : Gd} {r : (List Int)} {a0 : S28} {A1 : Option Addr} {c2 : Nat} (hr3 : Rd G k30 A1 a0.f0) (hl4 : a0.f0.length ≤ c2) (h : deadstore_Dead.f a0 = some r) : Fn Try.prog 10 G [] [.agg #[.slice A1 a0.f0.length c2, .int .i64 a0.f1.f0, .int .i64 a0.f1.f1, .int .i64 a0.f1.f2, .int .i64 a0.f1.f3]] (deadstore_Dead.post G r) := fun L W hO => by
  unfold deadstore_Dead.f at h
  obtain ⟨⟨h1, h2⟩, h⟩ := ite_no h
  obtain rfl := Option.some.inj h
  refine (dead_any A1 c2 a0.f0 a0.f1 W (hr3 W hO.ok) h1 h2).mono ?_
  rintro en W' ⟨v, rfl, hR, hB⟩
  obtain ⟨A', c', he, hl', _⟩ := Kd.R_reads hR
  subst he
  refine ⟨_, G, _, rfl, Gd.le.refl _, ⟨rfl, A', c', rfl, rfl⟩, ?_⟩
  refine hO.add hB ?_
  exact Kd.R_lower (base' := G.B) (Kd.R_mono (Kd.R_bound hR) (fun i hi => hi.2.1)) hO.B
end Go.Proofs.Ytmacdhkfgoahcaa.Sy
set_option linter.unusedVariables false
set_option linter.unusedSimpArgs false
set_option maxRecDepth 100000
set_option maxHeartbeats 4000000
namespace Go.Proofs.Ytmacdhkfgoahcaa.Sy
open Go Go.RowKit Go.Proofs.YtmacdhkfgoahcaaW.PrintWords Go.Proofs.Ytmacdhkfgoahcaa.Q
/-! #### struct type 36 -/
structure S36 where
 f0 : Int
 f1 : (List S28)
def z36 : S36 := ⟨(0 : Int), ([] : List S28)⟩
def k36 : Kd S36 := Kd.iso (Kd.pair (Kd.int .i64) (Kd.slice 28 k28)) (fun x : S36 => (x.f0, x.f1))
theorem k36_open {w : World} {x : S36} {cs : List Value} (h : k36.K w x cs) : ∃ A1 c1, cs = [.int .i64 x.f0, .slice A1 x.f1.length c1] ∧ x.f1.length ≤ c1 ∧ k28.C w A1 x.f1.length x.f1 := by
 obtain ⟨_, _, rfl, rfl, ⟨A1, c1, rfl, l1, g1⟩⟩ := h
 exact ⟨A1, c1, rfl, l1, g1⟩
theorem k36_openM {w : World} {base : Nat} {ok : Nat → Prop} {x : S36} {cs : List Value} (h : k36.M w base ok x cs) : ∃ v1, cs = [.int .i64 x.f0, v1] ∧ k28.R 28 w base ok v1 x.f1 := by
 obtain ⟨_, _, rfl, rfl, ⟨v1, rfl, g1⟩⟩ := h
 exact ⟨v1, rfl, g1⟩
theorem k36_mk (w : World) (x : S36) {A1 : Option Addr} {c1 : Nat} (l1 : x.f1.length ≤ c1) (g1 : k28.C w A1 x.f1.length x.f1) : k36.K w x [.int .i64 x.f0, .slice A1 x.f1.length c1] := ⟨[.int .i64 x.f0], [.slice A1 x.f1.length c1], rfl, rfl, ⟨A1, c1, rfl, l1, g1⟩⟩
theorem k36_mkM (w : World) (base : Nat) (ok : Nat → Prop) (x : S36) {v1 : Value} (g1 : k28.R 28 w base ok v1 x.f1) : k36.M w base ok x [.int .i64 x.f0, v1] := ⟨[.int .i64 x.f0], [v1], rfl, rfl, ⟨v1, rfl, g1⟩⟩
def rd_T36 (xs : List S36) (i : Int) : S36 := xs.getD i.toNat z36
theorem at_T36 {w : World} {A : Option Addr} {n : Nat} {xs : List S36} (h : Kd.C k36 w A n xs) (i : Int) (h0 : 0 ≤ i) (h1 : i < n) : ∃ ad A1 c1, A = some ad ∧ w.cell? (ad.add (i.toNat * 2)) = some (.int .i64 (rd_T36 xs i).f0) ∧ w.cell? ⟨(ad.add (i.toNat * 2)).block, (ad.add (i.toNat * 2)).off + 1, none⟩ = some (.slice A1 (rd_T36 xs i).f1.length c1) ∧ (rd_T36 xs i).f1.length ≤ c1 ∧ k28.C w A1 (rd_T36 xs i).f1.length (rd_T36 xs i).f1 := by
 obtain ⟨ad, c, e, _, hK, hc0⟩ := Kd.C_get h z36 i h0 h1
 have hc : ∀ j u, c[j]? = some u → w.cell? (ad.add (i.toNat * 2 + j)) = some u := hc0
 obtain ⟨A1, c1, rfl, l1, g1⟩ := k36_open hK
 exact ⟨ad, A1, c1, e, hc 0 _ rfl, by rw [← add_field _ _ 1 (by omega)]; exact hc 1 _ rfl, l1, g1⟩

theorem k28_openR {G : Gd} {x : S28} {cs : List Value} (h : RdK G k28 x cs) : ∃ A0 c0, cs = [.slice A0 x.f0.length c0, .int .i64 x.f1.f0, .int .i64 x.f1.f1, .int .i64 x.f1.f2, .int .i64 x.f1.f3] ∧ Rd G k30 A0 x.f0 ∧ x.f0.length ≤ c0 := by
 obtain ⟨A0, c0, rfl, l0, g0⟩ := k28_open (h G.W0 G.self)
 exact ⟨A0, c0, rfl, (fun W hW => by obtain ⟨A0', c0', he, l0', g0'⟩ := k28_open (h W hW); injection (Option.some.inj (congrArg (fun l => l[0]?) he)) with ha_ _ _; rw [ha_]; exact g0'), l0⟩
theorem k30_openR {G : Gd} {x : S30} {cs : List Value} (h : RdK G k30 x cs) : ∃ A5 c5, cs = [.int .i64 x.f0, .int .i64 x.f1, .int .i64 x.f2, .int .i64 x.f3, .int .i64 x.f4, .slice A5 x.f5.length c5] ∧ Rd G (Kd.int .i64) A5 x.f5 ∧ x.f5.length ≤ c5 := by
 obtain ⟨A5, c5, rfl, l5, g5⟩ := k30_open (h G.W0 G.self)
 exact ⟨A5, c5, rfl, (fun W hW => by obtain ⟨A5', c5', he, l5', g5'⟩ := k30_open (h W hW); injection (Option.some.inj (congrArg (fun l => l[5]?) he)) with ha_ _ _; rw [ha_]; exact g5'), l5⟩
theorem agg3 : aggB Try.prog 3 = some false := by kernel_rfl
theorem agg22 : aggB Try.prog 22 = some false := by kernel_rfl
theorem agg25 : aggB Try.prog 25 = some true := by kernel_rfl
theorem agg26 : aggB Try.prog 26 = some false := by kernel_rfl
theorem agg28 : aggB Try.prog 28 = some true := by kernel_rfl
theorem agg30 : aggB Try.prog 30 = some true := by kernel_rfl
theorem agg34 : aggB Try.prog 34 = some false := by kernel_rfl
theorem agg36 : aggB Try.prog 36 = some true := by kernel_rfl
theorem bld25 : (match Try.prog.underlying 25 with | some (.struct fs) => fs.toList.map (fun f => (Try.prog.info? f.type).map (·.size)) | _ => []) = [1, 1, 1, 1].map some := by kernel_rfl
theorem bld28 : (match Try.prog.underlying 28 with | some (.struct fs) => fs.toList.map (fun f => (Try.prog.info? f.type).map (·.size)) | _ => []) = [1, 4].map some := by kernel_rfl
theorem bld30 : (match Try.prog.underlying 30 with | some (.struct fs) => fs.toList.map (fun f => (Try.prog.info? f.type).map (·.size)) | _ => []) = [1, 1, 1, 1, 1, 1].map some := by kernel_rfl
theorem bld36 : (match Try.prog.underlying 36 with | some (.struct fs) => fs.toList.map (fun f => (Try.prog.info? f.type).map (·.size)) | _ => []) = [1, 1].map some := by kernel_rfl
theorem eqg25 : Try.prog.eqGuardType Try.prog.depth 25 = false := by kernel_rfl
theorem eqs25 (d : Nat) (w : World) (x0 y0 : Int) (x1 y1 : Int) (x2 y2 : Int) (x3 y3 : Int) : (Op.equalIn (d + 2) 25 (.agg #[.int .i64 x0, .int .i64 x1, .int .i64 x2, .int .i64 x3]) (.agg #[.int .i64 y0, .int .i64 y1, .int .i64 y2, .int .i64 y3])).run Try.prog w = .ok ((x0 == y0) && ((x1 == y1) && ((x2 == y2) && (x3 == y3)))) w := by
 refine fld_of Try.underlying25 (by kernel_rfl) ?_
 refine fld_cons (by rfl) (by go_simp; rfl) (by go_simp; rfl) (by go_simp) ?_
 refine fld_cons (by rfl) (by go_simp; rfl) (by go_simp; rfl) (by go_simp) ?_
 refine fld_cons (by rfl) (by go_simp; rfl) (by go_simp; rfl) (by go_simp) ?_
 exact fld_last (by rfl) (by go_simp; rfl) (by go_simp; rfl) (by go_simp)
theorem hbd9 : hasBody Try.prog 9 = true := by kernel_rfl
theorem hbd10 : hasBody Try.prog 10 = true := by kernel_rfl
theorem hbd11 : hasBody Try.prog 11 = true := by kernel_rfl
theorem hbd12 : hasBody Try.prog 12 = true := by kernel_rfl
theorem hbd13 : hasBody Try.prog 13 = true := by kernel_rfl
theorem hbd14 : hasBody Try.prog 14 = true := by kernel_rfl
theorem hbd15 : hasBody Try.prog 15 = true := by kernel_rfl
theorem hbd16 : hasBody Try.prog 16 = true := by kernel_rfl
theorem hbd17 : hasBody Try.prog 17 = true := by kernel_rfl
theorem hbd18 : hasBody Try.prog 18 = true := by kernel_rfl
theorem hbd19 : hasBody Try.prog 19 = true := by kernel_rfl
theorem hbd20 : hasBody Try.prog 20 = true := by kernel_rfl
theorem hbd21 : hasBody Try.prog 21 = true := by kernel_rfl
theorem hbd33 : hasBody Try.prog 33 = true := by kernel_rfl
theorem hbd37 : hasBody Try.prog 37 = true := by kernel_rfl
theorem hbd38 : hasBody Try.prog 38 = true := by kernel_rfl
theorem hbd39 : hasBody Try.prog 39 = true := by kernel_rfl
theorem hbd40 : hasBody Try.prog 40 = true := by kernel_rfl
theorem hbd41 : hasBody Try.prog 41 = true := by kernel_rfl
theorem hbd64 : hasBody Try.prog 64 = true := by kernel_rfl
theorem hbd65 : hasBody Try.prog 65 = true := by kernel_rfl
theorem inf3 : (Try.prog.info? 3).map (fun i => (i.zero, i.size, i.bytes)) = some (some (.int .i64 0), 1, 8) := by kernel_rfl
theorem inf28 : (Try.prog.info? 28).map (fun i => (i.zero, i.size, i.bytes)) = some (some (.agg #[.slice none 0 0, .int .i64 0, .int .i64 0, .int .i64 0, .int .i64 0]), 5, 56) := by kernel_rfl
theorem inf30 : (Try.prog.info? 30).map (fun i => (i.zero, i.size, i.bytes)) = some (some (.agg #[.int .i64 0, .int .i64 0, .int .i64 0, .int .i64 0, .int .i64 0, .slice none 0 0]), 6, 64) := by kernel_rfl
theorem mixed : Try.prog.follows .mixedOrders = true := by kernel_rfl
theorem fsz3 : (Try.prog.info? 3).map (·.size) = some 1 := by kernel_rfl
theorem fsz22 : (Try.prog.info? 22).map (·.size) = some 1 := by kernel_rfl
theorem fsz25 : (Try.prog.info? 25).map (·.size) = some 4 := by kernel_rfl
theorem fsz26 : (Try.prog.info? 26).map (·.size) = some 1 := by kernel_rfl
theorem fsz28 : (Try.prog.info? 28).map (·.size) = some 5 := by kernel_rfl
theorem fsz30 : (Try.prog.info? 30).map (·.size) = some 6 := by kernel_rfl
theorem fsz34 : (Try.prog.info? 34).map (·.size) = some 1 := by kernel_rfl
theorem fsz36 : (Try.prog.info? 36).map (·.size) = some 2 := by kernel_rfl
theorem zr25 : (Try.prog.info? 25).bind (·.zero) = some (.agg #[.int .i64 0, .int .i64 0, .int .i64 0, .int .i64 0]) := by kernel_rfl
theorem zr28 : (Try.prog.info? 28).bind (·.zero) = some (.agg #[.slice none 0 0, .int .i64 0, .int .i64 0, .int .i64 0, .int .i64 0]) := by kernel_rfl
theorem zr30 : (Try.prog.info? 30).bind (·.zero) = some (.agg #[.int .i64 0, .int .i64 0, .int .i64 0, .int .i64 0, .int .i64 0, .slice none 0 0]) := by kernel_rfl
theorem zr36 : (Try.prog.info? 36).bind (·.zero) = some (.agg #[.int .i64 0, .slice none 0 0]) := by kernel_rfl
theorem zs3 : (Try.prog.info? 3).map (fun i => (i.zero, i.size)) = some (some (.int .i64 0), 1) := by kernel_rfl
theorem zs28 : (Try.prog.info? 28).map (fun i => (i.zero, i.size)) = some (some (.agg #[.slice none 0 0, .int .i64 0, .int .i64 0, .int .i64 0, .int .i64 0]), 5) := by kernel_rfl
theorem zs30 : (Try.prog.info? 30).map (fun i => (i.zero, i.size)) = some (some (.agg #[.int .i64 0, .int .i64 0, .int .i64 0, .int .i64 0, .int .i64 0, .slice none 0 0]), 6) := by kernel_rfl
end Go.Proofs.Ytmacdhkfgoahcaa.Sy
set_option linter.unusedVariables false
set_option maxRecDepth 100000
namespace Go.Proofs.Ytmacdhkfgoahcaa.Sy
open Go Go.RowKit Go.Proofs.YtmacdhkfgoahcaaW.PrintWords Go.Proofs.Ytmacdhkfgoahcaa.SyO Go.Proofs.Ytmacdhkfgoahcaa.Q
theorem bytes22 : Try.prog.bytesOf 3 = 8 := by kernel_rfl
theorem bytes26 : Try.prog.bytesOf 30 = 64 := by kernel_rfl
theorem bytes34 : Try.prog.bytesOf 28 = 56 := by kernel_rfl
abbrev ok30 (x : S30) : Prop := (Lit.int .i64 x.f0).wf = true ∧ (Lit.int .i64 x.f1).wf = true ∧ (Lit.int .i64 x.f2).wf = true ∧ (Lit.int .i64 x.f3).wf = true ∧ (Lit.int .i64 x.f4).wf = true ∧ (x.f5.length * 8 ≤ 140737488351232 ∧ ∀ y ∈ x.f5, (Lit.int .i64 y).wf = true)
theorem opens30 (b : Nat) : Opens b Try.prog 30 k30 ok30 := (Opens.struct Try.underlying30 (by kernel_rfl) (OpensF.cons (Opens.int Try.underlying3 (by kernel_rfl)) rfl (OpensF.cons (Opens.int Try.underlying3 (by kernel_rfl)) rfl (OpensF.cons (Opens.int Try.underlying3 (by kernel_rfl)) rfl (OpensF.cons (Opens.int Try.underlying3 (by kernel_rfl)) rfl (OpensF.cons (Opens.int Try.underlying3 (by kernel_rfl)) rfl (OpensF.one (((Opens.slice Try.underlying22 (by kernel_rfl) (Opens.int Try.underlying3 (by kernel_rfl))).le (Nat.le_succ _)).mono (W' := fun (l : (List Int)) => (l.length * 8 ≤ 140737488351232 ∧ ∀ y ∈ l, (Lit.int .i64 y).wf = true)) (fun l h => ⟨by have h2 := h.2.1; rw [bytes22] at h2; exact h2, h.2.2⟩)))))))) (fun x : S30 => (x.f0, x.f1, x.f2, x.f3, x.f4, x.f5)) (fun y => ⟨y.1, y.2.1, y.2.2.1, y.2.2.2.1, y.2.2.2.2.1, y.2.2.2.2.2⟩) (fun _ => rfl)).le (Nat.le_succ _)
theorem ho30 : HO k30 := HO.iso (HO.pair HO.int (HO.pair HO.int (HO.pair HO.int (HO.pair HO.int (HO.pair HO.int (HO.slice HO.int))))))
abbrev ok25 (x : S25) : Prop := (Lit.int .i64 x.f0).wf = true ∧ (Lit.int .i64 x.f1).wf = true ∧ (Lit.int .i64 x.f2).wf = true ∧ (Lit.int .i64 x.f3).wf = true
theorem opens25 (b : Nat) : Opens b Try.prog 25 k25 ok25 := (Opens.struct Try.underlying25 (by kernel_rfl) (OpensF.cons (Opens.int Try.underlying3 (by kernel_rfl)) rfl (OpensF.cons (Opens.int Try.underlying3 (by kernel_rfl)) rfl (OpensF.cons (Opens.int Try.underlying3 (by kernel_rfl)) rfl (OpensF.one (Opens.int Try.underlying3 (by kernel_rfl)))))) (fun x : S25 => (x.f0, x.f1, x.f2, x.f3)) (fun y => ⟨y.1, y.2.1, y.2.2.1, y.2.2.2⟩) (fun _ => rfl)).le (Nat.le_succ _)
theorem ho25 : HO k25 := HO.iso (HO.pair HO.int (HO.pair HO.int (HO.pair HO.int HO.int)))
abbrev ok28 (x : S28) : Prop := (x.f0.length * 64 ≤ 140737488351232 ∧ ∀ y ∈ x.f0, ok30 y) ∧ ok25 x.f1
theorem opens28 (b : Nat) : Opens b Try.prog 28 k28 ok28 := (Opens.struct Try.underlying28 (by kernel_rfl) (OpensF.cons (((Opens.slice Try.underlying26 (by kernel_rfl) (opens30 b)).le (Nat.le_succ _)).mono (W' := fun (l : (List S30)) => (l.length * 64 ≤ 140737488351232 ∧ ∀ y ∈ l, ok30 y)) (fun l h => ⟨by have h2 := h.2.1; rw [bytes26] at h2; exact h2, h.2.2⟩)) rfl (OpensF.one (opens25 b))) (fun x : S28 => (x.f0, x.f1)) (fun y => ⟨y.1, y.2⟩) (fun _ => rfl)).le (Nat.le_succ _)
theorem ho28 : HO k28 := HO.iso (HO.pair (HO.slice ho30) ho25)
abbrev ok36 (x : S36) : Prop := (Lit.int .i64 x.f0).wf = true ∧ (x.f1.length * 56 ≤ 140737488351232 ∧ ∀ y ∈ x.f1, ok28 y)
theorem opens36 (b : Nat) : Opens b Try.prog 36 k36 ok36 := (Opens.struct Try.underlying36 (by kernel_rfl) (OpensF.cons (Opens.int Try.underlying3 (by kernel_rfl)) rfl (OpensF.one (((Opens.slice Try.underlying34 (by kernel_rfl) (opens28 b)).le (Nat.le_succ _)).mono (W' := fun (l : (List S28)) => (l.length * 56 ≤ 140737488351232 ∧ ∀ y ∈ l, ok28 y)) (fun l h => ⟨by have h2 := h.2.1; rw [bytes34] at h2; exact h2, h.2.2⟩)))) (fun x : S36 => (x.f0, x.f1)) (fun y => ⟨y.1, y.2⟩) (fun _ => rfl)).le (Nat.le_succ _)
theorem ho36 : HO k36 := HO.iso (HO.pair HO.int (HO.slice ho28))
end Go.Proofs.Ytmacdhkfgoahcaa.Sy
set_option linter.unusedVariables false
set_option linter.unusedSimpArgs false
set_option maxRecDepth 100000
set_option maxHeartbeats 4000000
namespace Go.Proofs.Ytmacdhkfgoahcaa.Sy
open Go Go.RowKit Go.Proofs.YtmacdhkfgoahcaaW.PrintWords Go.Proofs.Ytmacdhkfgoahcaa.Q
def slices_Clone_int_int.f (a0 : (List Int)) : Option (List Int) := (if ([] : List Int).length + a0.length ≤ 17592186044416 then some (([] : List Int) ++ a0) else none)
def slices_Clone_int_int.post (G : Gd)  (r : (List Int)) (v : Value) (G' : Gd) (Lr : List Ch) : Prop := G = G' ∧ ∃ (A_1 : Option Addr) (c_1 : Nat), v = .slice A_1 r.length c_1 ∧ Lr = [Row (Kd.int .i64) 3 (.slice A_1 r.length c_1) r]
theorem slices_Clone_int_int.calls {G : Gd} {r : (List Int)} {a0 : (List Int)} {A1 : Option Addr} {c2 : Nat} (hr3 : Rd G (Kd.int .i64) A1 a0) (hl4 : a0.length ≤ c2) (h : slices_Clone_int_int.f a0 = some r) : Fn Try.prog 37 G [] [.slice A1 a0.length c2] (slices_Clone_int_int.post G  r) := by
 refine Fn.intro (e := [(0, .slice A1 a0.length c2)]) 8 Try.func37 rfl Try.ntmps37 rfl rfl (Nat.le_of_ble_eq_true rfl) (fun L => ?_)
 unfold slices_Clone_int_int.f at h
 refine TC.seq ?_
 refine TC.region ?_
 refine TL.cons (TO.val rfl rfl rfl (Val.assign rfl) ?_)
 refine TL.nil ?_
 refine TQ.then_ ?_
 refine TC.seq ?_
 refine TC.seq ?_
 refine TC.region ?_
 refine TL.cons (TO.val rfl rfl rfl (Val.move rfl) ?_)
 refine TL.cons (TO.val rfl rfl rfl (Val.eqNil Try.underlying22 rfl) ?_)
 refine TL.nil ?_
 refine TQ.then_ ?_
 refine TC.cond rfl (fun hc6 => ?_) (fun hc6 => ?_)
 ·
  have hn := Rd.nilEq hr3 hc6
  have h : some ([] : List Int) = some r := by first | (simpa [hn] using h) | (simp [hn] at h; simp [h, hn])
  refine TC.seq ?_
  refine TC.region ?_
  refine TL.cons (TO.val rfl rfl rfl (Val.assign rfl) ?_)
  refine TL.nil ?_
  refine TQ.then_ ?_
  refine TC.ret ?_
  refine TQ.thenR ?_
  refine TQ.nilRow (Kd.int .i64) 3 ?_
  obtain rfl := Option.some.inj h
  exact TQ.fin (.inl rfl) rfl Try.results37 (.tmp rfl .nil) rfl (FRel.mk (Ls := [Row (Kd.int .i64) 3 (.slice none 0 0) ([] : List Int)]) [0] 1 (Gd.le.refl _) rfl rfl rfl ⟨rfl, none, 0, rfl, rfl⟩)
 ·
  refine TC.skip ?_
  refine TQ.then_ ?_
  refine TC.seq ?_
  refine TC.region ?_
  refine TL.cons (TL.buildSlice0 (Kd.int .i64) rfl rfl Try.underlying22 zs3 (fun b8 => ?_))
  refine TL.cons (TO.val rfl rfl rfl (Val.move rfl) ?_)
  obtain ⟨ha10, h⟩ := ite_no h
  refine TL.cons (TL.appendR (xs := ([] : List Int)) (ys := a0) (Kd.int .i64) (Kd.int .i64) rfl rfl Try.underlying22 inf3 rfl (Nat.le_of_ble_eq_true rfl) (Nat.le_of_ble_eq_true rfl) rfl rfl (by omega) hr3 rfl (fun _ _ _ _ _ h => h) (fun A11 c12 => ?_))
  refine TL.cons (TO.val rfl rfl rfl (Val.assign rfl) ?_)
  refine TL.nil ?_
  refine TQ.then_ ?_
  refine TC.ret ?_
  obtain rfl := Option.some.inj h
  exact TQ.fin (.inl rfl) rfl Try.results37 (.tmp rfl .nil) rfl (FRel.mk (Ls := [Row (Kd.int .i64) 3 (.slice A11 (([] : List Int) ++ a0).length c12) (([] : List Int) ++ a0)]) [0] 1 (Gd.le.refl _) rfl rfl rfl ⟨rfl, A11, c12, rfl, rfl⟩)
end Go.Proofs.Ytmacdhkfgoahcaa.Sy
set_option linter.unusedVariables false
set_option linter.unusedSimpArgs false
set_option maxRecDepth 100000
set_option maxHeartbeats 4000000
namespace Go.Proofs.Ytmacdhkfgoahcaa.Sy
open Go Go.RowKit Go.Proofs.YtmacdhkfgoahcaaW.PrintWords Go.Proofs.Ytmacdhkfgoahcaa.Q
def slices_Delete_api_Op_api_Op.f (a0 : List S30) (a1 a2 : Int) : Option (List S30) := if 0 ≤ a1 ∧ a1 ≤ a2 ∧ a2 ≤ (a0.length : Int) then some (a0.take a1.toNat ++ a0.drop a2.toNat) else none
def slices_Delete_api_Op_api_Op.post (G : Gd) (r : List S30) (v : Value) (G' : Gd) (Lr : List Ch) : Prop := G = G' ∧ ∃ (A_1 : Option Addr) (c_1 : Nat), v = .slice A_1 r.length c_1 ∧ Lr = [Row k30 30 (.slice A_1 r.length c_1) r]
theorem slices_Delete_api_Op_api_Op.calls {G : Gd} {r a0 : List S30} {a1 a2 : Int} {A1 : Option Addr} {c2 : Nat} (h : slices_Delete_api_Op_api_Op.f a0 a1 a2 = some r) : Fn Try.prog 38 G [Row k30 30 (.slice A1 a0.length c2) a0] [.slice A1 a0.length c2, .int .i64 a1, .int .i64 a2] (slices_Delete_api_Op_api_Op.post G r) := by
 refine Fn.intro 33 Try.func38 rfl Try.ntmps38 rfl rfl (Nat.le_of_ble_eq_true rfl) (fun L => ?_)
 unfold slices_Delete_api_Op_api_Op.f at h
 obtain ⟨⟨h0, h1, h2⟩, h⟩ := ite_no h
 refine TC.rowle 0 rfl (fun hle hmax hA => ?_)
 refine TC.seq ?_
 refine TC.region ?_
 refine TL.cons (TO.val rfl rfl rfl (Val.assign rfl) ?_)
 refine TL.nil ?_
 refine TQ.then_ ?_
 refine TC.seq ?_
 refine TC.region ?_
 refine TL.cons (TO.val rfl rfl rfl (Val.move rfl) ?_)
 refine TL.cons (TO.val rfl rfl rfl (Val.move rfl) ?_)
 refine TL.cons (TO.val rfl rfl rfl (Val.move rfl) ?_)
 refine TL.cons (TO.val rfl rfl rfl (Val.move rfl) ?_)
 refine TL.cons (TO.val rfl rfl rfl (Val.len Try.underlying26 rfl) ?_)
 refine TL.cons (TO.valE rfl rfl rfl (Val.cut3 Try.underlying26 fsz30 rfl rfl rfl rfl h0 h1 h2 (by omega)) (fun v3 => ?_))
 refine TL.nil ?_
 refine TQ.then_ ?_
 refine TC.seq ?_
 refine TC.seq ?_
 refine TC.region ?_
 refine TL.cons (TO.val rfl rfl rfl (Val.move rfl) ?_)
 refine TL.cons (TO.val rfl rfl rfl (Val.move rfl) ?_)
 refine TL.cons (TO.val rfl rfl rfl (Val.cmp rfl rfl run_eql) ?_)
 refine TL.nil ?_
 refine TQ.then_ ?_
 refine TC.cond rfl (fun hc => ?_) (fun hc => ?_)
 ·
  have hc := of_decide_eq_true hc
  subst hc
  have hr : a0 = r := by rw [← Option.some.inj h, List.take_append_drop]
  subst hr
  refine TC.seq ?_
  refine TC.region ?_
  refine TL.cons (TO.val rfl rfl rfl (Val.move rfl) ?_)
  refine TL.cons (TO.val rfl rfl rfl (Val.assign rfl) ?_)
  refine TL.nil ?_
  refine TQ.then_ ?_
  refine TC.ret ?_
  refine TQ.thenR ?_
  exact TQ.done (Ls := [Row k30 30 (.slice A1 a0.length c2) a0]) (.inl rfl) [0] 1 Try.results38 (.tmp rfl .nil) rfl (Gd.le.refl _) rfl rfl rfl ⟨rfl, _, _, rfl, rfl⟩
 ·
  have h := Option.some.inj h
  subst h
  have hlen : (a0.take a1.toNat ++ a0.drop a2.toNat).length = a1.toNat + (a0.length - a2.toNat) := by rw [List.length_append, List.length_take, List.length_drop]; omega
  refine TC.skip ?_
  refine TQ.then_ ?_
  refine TC.seq ?_
  refine TC.region ?_
  refine TL.cons (TO.val rfl rfl rfl (Val.move rfl) ?_)
  refine TL.cons (TO.val rfl rfl rfl (Val.len Try.underlying26 rfl) ?_)
  refine TL.cons (TO.val rfl rfl rfl (Val.assign rfl) ?_)
  refine TL.nil ?_
  refine TQ.then_ ?_
  refine TC.seq ?_
  refine TC.regionAny [6, 7] [0, 1, 2, 3, 4, 5] mixed (by kernel_rfl) ?_
  refine TA.take 0 rfl (by kernel_rfl) rfl (PQ.then_ PQ.body) rfl (Val.move rfl) (fun W hO => hO) ?_
  refine TA.take 1 rfl (by kernel_rfl) rfl (PQ.then_ PQ.body) rfl (Val.move rfl) (fun W hO => hO) ?_
  refine TA.take 2 rfl (by kernel_rfl) rfl (PQ.then_ PQ.body) rfl (Val.cutC (l := 0) Try.underlying26 fsz30 rfl rfl rfl (by omega) h0 (by omega)) (fun W hO => hO) ?_
  refine TA.take 3 rfl (by kernel_rfl) rfl (PQ.then_ PQ.body) rfl (Val.move rfl) (fun W hO => hO) ?_
  refine TA.take 4 rfl (by kernel_rfl) rfl (PQ.then_ PQ.body) rfl (Val.move rfl) (fun W hO => hO) ?_
  refine TA.take 5 rfl (by kernel_rfl) rfl (PQ.then_ PQ.body) rfl (Val.cutC Try.underlying26 fsz30 rfl rfl rfl (by omega) h2 (by omega)) (fun W hO => hO) ?_
  refine TA.eff 6 rfl (by kernel_rfl) rfl (TL.cutAppend k30 (i := a1.toNat) (j := a2.toNat) (m := a0.length - a2.toNat) rfl rfl Try.underlying26 fsz30 (Nat.le_of_ble_eq_true rfl) rfl rfl rfl (by omega) (by omega) rfl ?_)
  refine TA.last rfl ?_
  refine TA.eff 7 rfl (by kernel_rfl) rfl (TO.val rfl rfl rfl (Val.assign rfl) ?_)
  refine TA.last rfl ?_
  refine TA.done (by kernel_rfl) ?_
  refine TQ.then_ ?_
  refine TC.seq ?_
  refine TC.region ?_
  refine TL.cons (TO.val rfl rfl rfl (Val.move rfl) ?_)
  refine TL.cons (TO.val rfl rfl rfl (Val.move rfl) ?_)
  refine TL.cons (TO.val rfl rfl rfl (Val.len Try.underlying26 rfl) ?_)
  refine TL.cons (TO.val rfl rfl rfl (Val.move rfl) ?_)
  refine TL.cons (TO.val rfl rfl rfl (Val.cutC Try.underlying26 fsz30 rfl rfl rfl (by omega) (by omega) (by omega)) ?_)
  refine TL.cons (TL.clearTail k30 rfl Try.underlying26 zs30 rfl rfl (Nat.le_of_ble_eq_true rfl) rfl (by omega) (by omega) ?_)
  refine TL.nil ?_
  refine TQ.then_ ?_
  refine TC.seq ?_
  refine TC.region ?_
  refine TL.cons (TO.val rfl rfl rfl (Val.move rfl) ?_)
  refine TL.cons (TO.val rfl rfl rfl (Val.assign rfl) ?_)
  refine TL.nil ?_
  refine TQ.then_ ?_
  refine TC.ret ?_
  exact TQ.done (Ls := [_]) (.inl rfl) [0] 1 Try.results38 (.tmp rfl .nil) rfl (Gd.le.refl _) rfl rfl rfl ⟨rfl, _, _, rfl, rfl⟩
end Go.Proofs.Ytmacdhkfgoahcaa.Sy
set_option linter.unusedVariables false
set_option linter.unusedSimpArgs false
set_option maxRecDepth 100000
set_option maxHeartbeats 4000000
namespace Go.Proofs.Ytmacdhkfgoahcaa.Sy
open Go Go.RowKit Go.Proofs.YtmacdhkfgoahcaaW.PrintWords Go.Proofs.Ytmacdhkfgoahcaa.Q
def deadstore_Block.l1 (a0 : S28) : Nat → (List S30) → Option S28
 | 0, _ => none
 | n651 + 1, l540 => (deadstore_Dead.f (⟨l540, a0.f1⟩ : S28)).bind fun (y711 : (List Int)) => (if (y711.length : Int) = 0 then some (⟨l540, a0.f1⟩ : S28) else (at? y711 0).bind fun y744 => (slices_Delete_api_Op_api_Op.f l540 y744 (IntKind.i64.wrap (y744 + 1))).bind fun (y753 : (List S30)) => deadstore_Block.l1 a0 n651 y753)
def deadstore_Block.l0 (a0 : S28) : Nat → Int → (List S30) → Option ((List S30))
 | 0, _, _ => none
 | n169 + 1, x111, l112 => (if x111 < (a0.f0.length : Int) then (at? a0.f0 x111).bind fun y783 => (slices_Clone_int_int.f y783.f5).bind fun (y797 : (List Int)) => (if l112.length < 2199023255552 then deadstore_Block.l0 a0 n169 (IntKind.i64.wrap (x111 + 1)) (l112 ++ [(⟨y783.f0, y783.f1, y783.f2, y783.f3, y783.f4, y797⟩ : S30)]) else none) else some l112)
def deadstore_Block.f (a0 : S28) : Option S28 := (deadstore_Block.l0 a0 (a0.f0.length + 1) 0 []).bind fun (l164 : (List S30)) => (deadstore_Block.l1 a0 (a0.f0.length + 1) l164).bind fun q_ => some q_
def deadstore_Block.post (G : Gd)  (r : S28) (v : Value) (G' : Gd) (Lr : List Ch) : Prop := G = G' ∧ ∃ (A_1 : Option Addr) (c_1 : Nat), v = .agg #[.slice A_1 r.f0.length c_1, .int .i64 r.f1.f0, .int .i64 r.f1.f1, .int .i64 r.f1.f2, .int .i64 r.f1.f3] ∧ Lr = [Row k30 30 (.slice A_1 r.f0.length c_1) r.f0]
theorem deadstore_Block.calls {G : Gd} {r : S28} {a0 : S28} {A1 : Option Addr} {c2 : Nat} (hr3 : Rd G k30 A1 a0.f0) (hl4 : a0.f0.length ≤ c2) (h : deadstore_Block.f a0 = some r) : Fn Try.prog 11 G [] [.agg #[.slice A1 a0.f0.length c2, .int .i64 a0.f1.f0, .int .i64 a0.f1.f1, .int .i64 a0.f1.f2, .int .i64 a0.f1.f3]] (deadstore_Block.post G  r) := by
 refine Fn.intro (e := [(0, .agg #[.slice A1 a0.f0.length c2, .int .i64 a0.f1.f0, .int .i64 a0.f1.f1, .int .i64 a0.f1.f2, .int .i64 a0.f1.f3])]) 45 Try.func11 rfl Try.ntmps11 rfl rfl (Nat.le_of_ble_eq_true rfl) (fun L => ?_)
 unfold deadstore_Block.f at h
 refine TC.seq ?_
 refine TC.region ?_
 refine TL.cons (TL.box (cs := [.slice A1 a0.f0.length c2, .int .i64 a0.f1.f0, .int .i64 a0.f1.f1, .int .i64 a0.f1.f2, .int .i64 a0.f1.f3]) rfl rfl rfl rfl (fun b5 => ?_))
 refine TL.cons (TL.alloc (cs := [.slice none 0 0, .int .i64 0, .int .i64 0, .int .i64 0, .int .i64 0]) rfl rfl zr28 rfl (fun b6 => ?_))
 refine TL.nil ?_
 refine TQ.then_ ?_
 refine TC.seq ?_
 refine TC.region ?_
 refine TL.cons (TO.val rfl rfl rfl (Val.fieldAddrB Try.underlying28 rfl fsz25 rfl rfl rfl) ?_)
 refine TL.cons (TO.val rfl rfl rfl (Val.loadsB 1 (cs := [.int .i64 a0.f1.f0, .int .i64 a0.f1.f1, .int .i64 a0.f1.f2, .int .i64 a0.f1.f3]) agg25 fsz25 rfl rfl rfl rfl) ?_)
 refine TL.cons (TO.val rfl rfl rfl (Val.build (cs := [.slice none 0 0, .int .i64 a0.f1.f0, .int .i64 a0.f1.f1, .int .i64 a0.f1.f2, .int .i64 a0.f1.f3]) (is := [1]) (xs := [.tmp 8]) Try.underlying28 zr28 bld28 rfl rfl rfl rfl) ?_)
 refine TL.cons (TL.alloc (cs := [.slice none 0 0, .int .i64 0, .int .i64 0, .int .i64 0, .int .i64 0]) rfl rfl zr28 rfl (fun b7 => ?_))
 refine TL.cons (TL.store 0 (ds := [.slice none 0 0, .int .i64 a0.f1.f0, .int .i64 a0.f1.f1, .int .i64 a0.f1.f2, .int .i64 a0.f1.f3]) (cs' := [.slice none 0 0, .int .i64 a0.f1.f0, .int .i64 a0.f1.f1, .int .i64 a0.f1.f2, .int .i64 a0.f1.f3]) (L' := (Blk b7 [.slice none 0 0, .int .i64 a0.f1.f0, .int .i64 a0.f1.f1, .int .i64 a0.f1.f2, .int .i64 a0.f1.f3] 28 :: Blk b6 [.slice none 0 0, .int .i64 0, .int .i64 0, .int .i64 0, .int .i64 0] 28 :: Blk b5 [.slice A1 a0.f0.length c2, .int .i64 a0.f1.f0, .int .i64 a0.f1.f1, .int .i64 a0.f1.f2, .int .i64 a0.f1.f3] 28 :: L)) rfl fsz28 rfl rfl rfl rfl rfl (Nat.le_of_ble_eq_true rfl) rfl rfl ?_)
 refine TL.nil ?_
 refine TQ.then_ ?_
 refine TC.seq ?_
 refine TC.seq ?_
 refine TC.region ?_
 refine TL.cons (TO.val rfl rfl rfl (Val.fieldAddrB Try.underlying28 rfl fsz26 rfl rfl rfl) ?_)
 refine TL.cons (TO.val rfl rfl rfl (Val.loadB 2 agg26 rfl rfl rfl) ?_)
 refine TL.cons (TO.val rfl rfl rfl (Val.len Try.underlying26 rfl) ?_)
 refine TL.cons (TO.val rfl rfl rfl (Val.move rfl) ?_)
 refine TL.nil ?_
 refine TQ.then_ ?_
 obtain ⟨o168, ho168, ko168⟩ := bind_no h
 clear h
 refine TC.tail (fun a W => ∃ (l164 : (List S30)) (A165 : Option Addr) (c166 : Nat), l164 = o168 ∧ Fr 45 a [(2, .pointer (some ⟨b6, 0, none⟩)), (3, .pointer (some ⟨b7, 0, none⟩))] ∧ Own G (Blk b6 [.slice none 0 0, .int .i64 0, .int .i64 0, .int .i64 0, .int .i64 0] 28 :: Blk b7 [.slice A165 l164.length c166, .int .i64 a0.f1.f0, .int .i64 a0.f1.f1, .int .i64 a0.f1.f2, .int .i64 a0.f1.f3] 28 :: Row k30 30 (.slice A165 l164.length c166) l164 :: L) W) ?_ ?_
 ·
  rintro a W ⟨l164, A165, c166, rfl, hF, hO⟩
  have h := ko168
  clear ko168 ho168
  refine TQ.use ?_ hF hO
  clear hF hO
  refine TQ.then_ ?_
  obtain ⟨o650, ho650, ko650⟩ := bind_no h
  clear h
  refine TC.tail (fun a W => False) (fun a W h => h.elim) ?_
  ·
   refine TC.block ?_
   intro a W hF hO
   have hS : ∃ (l540 : (List S30)) (A541 : Option Addr) (c542 : Nat), deadstore_Block.l1 a0 (a0.f0.length + 1) l540 = some o650 ∧ Fr 45 a [(2, .pointer (some ⟨b6, 0, none⟩)), (3, .pointer (some ⟨b7, 0, none⟩))] ∧ Own G (Blk b6 [.slice none 0 0, .int .i64 0, .int .i64 0, .int .i64 0, .int .i64 0] 28 :: Blk b7 [.slice A541 l540.length c542, .int .i64 a0.f1.f0, .int .i64 a0.f1.f1, .int .i64 a0.f1.f2, .int .i64 a0.f1.f3] 28 :: Row k30 30 (.slice A541 l540.length c542) l540 :: L) W := by
    exact ⟨l164, A165, c166, ho650, hF.sub ⟨rfl, rfl, trivial⟩, hO.selT (Ls := [Blk b6 [.slice none 0 0, .int .i64 0, .int .i64 0, .int .i64 0, .int .i64 0] 28, Blk b7 [.slice A165 l164.length c166, .int .i64 a0.f1.f0, .int .i64 a0.f1.f1, .int .i64 a0.f1.f2, .int .i64 a0.f1.f3] 28, Row k30 30 (.slice A165 l164.length c166) l164]) [0, 1, 2] 3 rfl rfl rfl⟩
   clear hF hO ho650
   refine TC.loop (fun n651 a W => ∃ (l540 : (List S30)) (A541 : Option Addr) (c542 : Nat), deadstore_Block.l1 a0 n651 l540 = some o650 ∧ Fr 45 a [(2, .pointer (some ⟨b6, 0, none⟩)), (3, .pointer (some ⟨b7, 0, none⟩))] ∧ Own G (Blk b6 [.slice none 0 0, .int .i64 0, .int .i64 0, .int .i64 0, .int .i64 0] 28 :: Blk b7 [.slice A541 l540.length c542, .int .i64 a0.f1.f0, .int .i64 a0.f1.f1, .int .i64 a0.f1.f2, .int .i64 a0.f1.f3] 28 :: Row k30 30 (.slice A541 l540.length c542) l540 :: L) W) ?_ ?_ hS
   ·
    rintro a W ⟨l540, A541, c542, h, hF, hO⟩
    exact none_no h
   ·
    clear hS
    rintro n651 a W ⟨l540, A541, c542, h, hF, hO⟩
    rw [deadstore_Block.l1] at h
    refine TC.use ?_ hF hO
    clear hF hO
    refine TC.block ?_
    refine TC.seq ?_
    refine TC.region ?_
    refine TL.cons (TO.val rfl rfl rfl (Val.loadsB 1 (cs := [.slice A541 l540.length c542, .int .i64 a0.f1.f0, .int .i64 a0.f1.f1, .int .i64 a0.f1.f2, .int .i64 a0.f1.f3]) agg28 fsz28 rfl rfl rfl rfl) ?_)
    refine TK.sel (Ls := [Row k30 30 (.slice A541 l540.length c542) l540, Blk b6 [.slice none 0 0, .int .i64 0, .int .i64 0, .int .i64 0, .int .i64 0] 28, Blk b7 [.slice A541 l540.length c542, .int .i64 a0.f1.f0, .int .i64 a0.f1.f1, .int .i64 a0.f1.f2, .int .i64 a0.f1.f3] 28]) [2, 0, 1] 3 rfl rfl rfl ?_
    refine TK.share (fun G705 e706 hs707 hb708 => ?_)
    have rd709 : Rd G705 k30 A541 l540 := Rd.row hs707
    have le710 : l540.length ≤ c542 := Row.le hs707
    obtain ⟨y711, hy712, h⟩ := bind_no h
    refine TL.cons (TL.callV (Lin := []) (args := [.agg #[.slice A541 l540.length c542, .int .i64 a0.f1.f0, .int .i64 a0.f1.f1, .int .i64 a0.f1.f2, .int .i64 a0.f1.f3]]) rfl rfl rfl hbd10 rfl rfl (deadstore_Dead.calls (a0 := (⟨l540, a0.f1⟩ : S28)) rd709 le710 hy712) rfl ?_)
    rintro _ _ _ _ ⟨rfl, A713, c714, rfl, rfl⟩
    refine TL.cons (TO.val rfl rfl rfl (Val.assign rfl) ?_)
    refine TL.nil ?_
    refine TQ.then_ ?_
    refine TC.seq ?_
    refine TC.seq ?_
    refine TC.region ?_
    refine TL.cons (TO.val rfl rfl rfl (Val.move rfl) ?_)
    refine TL.cons (TO.val rfl rfl rfl (Val.len Try.underlying22 rfl) ?_)
    refine TL.cons (TO.val rfl rfl rfl (Val.cmp rfl rfl run_eql) ?_)
    refine TL.nil ?_
    refine TQ.then_ ?_
    refine TC.back hb708 ?_
    refine TC.cond_p rfl h (fun hc717 h => ?_) (fun hc717 h => ?_)
    ·
     refine TC.seq ?_
     refine TC.region ?_
     refine TL.cons (TO.val rfl rfl rfl (Val.loadsB 3 (cs := [.slice A541 l540.length c542, .int .i64 a0.f1.f0, .int .i64 a0.f1.f1, .int .i64 a0.f1.f2, .int .i64 a0.f1.f3]) agg28 fsz28 rfl rfl rfl rfl) ?_)
     refine TL.cons (TL.store 2 (ds := [.slice A541 l540.length c542, .int .i64 a0.f1.f0, .int .i64 a0.f1.f1, .int .i64 a0.f1.f2, .int .i64 a0.f1.f3]) (cs' := [.slice A541 l540.length c542, .int .i64 a0.f1.f0, .int .i64 a0.f1.f1, .int .i64 a0.f1.f2, .int .i64 a0.f1.f3]) (L' := (Row k30 30 (.slice A541 l540.length c542) l540 :: Row (Kd.int .i64) 3 (.slice A713 y711.length c714) y711 :: Blk b6 [.slice A541 l540.length c542, .int .i64 a0.f1.f0, .int .i64 a0.f1.f1, .int .i64 a0.f1.f2, .int .i64 a0.f1.f3] 28 :: Blk b7 [.slice A541 l540.length c542, .int .i64 a0.f1.f0, .int .i64 a0.f1.f1, .int .i64 a0.f1.f2, .int .i64 a0.f1.f3] 28 :: L)) rfl fsz28 rfl rfl rfl rfl rfl (Nat.le_of_ble_eq_true rfl) rfl rfl ?_)
     refine TL.nil ?_
     refine TQ.then_ ?_
     refine TC.ret ?_
     refine TQ.thenR ?_
     refine TQ.inBR ?_
     refine TQ.thenR ?_
     refine TQ.inBR ?_
     refine TQ.thenR ?_
     obtain rfl := Option.some.inj h
     have h := ko650
     obtain rfl := Option.some.inj h
     exact TQ.fin (.inl rfl) rfl Try.results11 (.cells 2 rfl rfl agg28 fsz28 .nil) rfl (FRel.mk (Ls := [Row k30 30 (.slice A541 l540.length c542) l540]) [0] 4 (Gd.le.refl _) rfl rfl rfl ⟨rfl, A541, c542, rfl, rfl⟩)
    ·
     refine TC.skip ?_
     refine TQ.then_ ?_
     refine TC.sel (Ls := [Row (Kd.int .i64) 3 (.slice A713 y711.length c714) y711, Row k30 30 (.slice A541 l540.length c542) l540, Blk b6 [.slice none 0 0, .int .i64 0, .int .i64 0, .int .i64 0, .int .i64 0] 28, Blk b7 [.slice A541 l540.length c542, .int .i64 a0.f1.f0, .int .i64 a0.f1.f1, .int .i64 a0.f1.f2, .int .i64 a0.f1.f3] 28]) [1, 0, 2, 3] 4 rfl rfl rfl ?_
     refine TC.share (fun G738 e739 hs740 hb741 => ?_)
     have rd742 : Rd G738 (Kd.int .i64) A713 y711 := Rd.row hs740
     have le743 : y711.length ≤ c714 := Row.le hs740
     refine TC.regionAnyS (L0 := (Blk b6 [.slice none 0 0, .int .i64 0, .int .i64 0, .int .i64 0, .int .i64 0] 28 :: Blk b7 [.slice A541 l540.length c542, .int .i64 a0.f1.f0, .int .i64 a0.f1.f1, .int .i64 a0.f1.f2, .int .i64 a0.f1.f3] 28 :: L)) [9, 10, 11] [0, 1, 2, 3, 4, 5, 6, 7, 8] mixed (by kernel_rfl) ?_
     refine TA.take 0 rfl (by kernel_rfl) rfl (PQ.inB (PQ.then_ (PQ.inB (PQ.then_ PQ.body)))) rfl (Val.fieldAddrB Try.underlying28 rfl fsz26 rfl rfl rfl) (fun W hO => hO.selT (Ls := [Blk b6 [.slice none 0 0, .int .i64 0, .int .i64 0, .int .i64 0, .int .i64 0] 28, Blk b7 [.slice A541 l540.length c542, .int .i64 a0.f1.f0, .int .i64 a0.f1.f1, .int .i64 a0.f1.f2, .int .i64 a0.f1.f3] 28]) [1, 2] 3 rfl rfl rfl) ?_
     refine TA.take 1 rfl (by kernel_rfl) rfl (PQ.inB (PQ.then_ (PQ.inB (PQ.then_ PQ.body)))) rfl (Val.loadB 1 agg26 rfl rfl rfl) (fun W hO => hO.selT (Ls := [Blk b6 [.slice none 0 0, .int .i64 0, .int .i64 0, .int .i64 0, .int .i64 0] 28, Blk b7 [.slice A541 l540.length c542, .int .i64 a0.f1.f0, .int .i64 a0.f1.f1, .int .i64 a0.f1.f2, .int .i64 a0.f1.f3] 28]) [1, 2] 3 rfl rfl rfl) ?_
     refine TA.take 2 rfl (by kernel_rfl) rfl (PQ.inB (PQ.then_ (PQ.inB (PQ.then_ PQ.body)))) rfl (Val.move rfl) (fun W hO => hO.selT (Ls := [Blk b6 [.slice none 0 0, .int .i64 0, .int .i64 0, .int .i64 0, .int .i64 0] 28, Blk b7 [.slice A541 l540.length c542, .int .i64 a0.f1.f0, .int .i64 a0.f1.f1, .int .i64 a0.f1.f2, .int .i64 a0.f1.f3] 28]) [1, 2] 3 rfl rfl rfl) ?_
     obtain ⟨y744, hx745, h⟩ := bind_no h
     obtain ⟨ad746, cs752, hA747, hi748, hj749, hcl750, hK751⟩ := Rd.at rd742 hx745
     obtain rfl := RdK.int hK751
     refine TA.take 3 rfl (by kernel_rfl) rfl (PQ.inB (PQ.then_ (PQ.inB (PQ.then_ PQ.body)))) rfl (Val.indexAddr Try.underlying22 fsz3 rfl hA747 rfl hi748 hj749) (fun W hO => hO.selT (Ls := [Blk b6 [.slice none 0 0, .int .i64 0, .int .i64 0, .int .i64 0, .int .i64 0] 28, Blk b7 [.slice A541 l540.length c542, .int .i64 a0.f1.f0, .int .i64 a0.f1.f1, .int .i64 a0.f1.f2, .int .i64 a0.f1.f3] 28]) [1, 2] 3 rfl rfl rfl) ?_
     refine TA.take 4 rfl (by kernel_rfl) rfl (PQ.inB (PQ.then_ (PQ.inB (PQ.then_ PQ.body)))) rfl (Val.loadS agg3 rfl (hcl750 0 _ rfl)) (fun W hO => hO.selT (Ls := [Blk b6 [.slice none 0 0, .int .i64 0, .int .i64 0, .int .i64 0, .int .i64 0] 28, Blk b7 [.slice A541 l540.length c542, .int .i64 a0.f1.f0, .int .i64 a0.f1.f1, .int .i64 a0.f1.f2, .int .i64 a0.f1.f3] 28]) [1, 2] 3 rfl rfl rfl) ?_
     refine TA.take 5 rfl (by kernel_rfl) rfl (PQ.inB (PQ.then_ (PQ.inB (PQ.then_ PQ.body)))) rfl (Val.move rfl) (fun W hO => hO.selT (Ls := [Blk b6 [.slice none 0 0, .int .i64 0, .int .i64 0, .int .i64 0, .int .i64 0] 28, Blk b7 [.slice A541 l540.length c542, .int .i64 a0.f1.f0, .int .i64 a0.f1.f1, .int .i64 a0.f1.f2, .int .i64 a0.f1.f3] 28]) [1, 2] 3 rfl rfl rfl) ?_
     refine TA.take 6 rfl (by kernel_rfl) rfl (PQ.inB (PQ.then_ (PQ.inB (PQ.then_ PQ.body)))) rfl (Val.indexAddr Try.underlying22 fsz3 rfl hA747 rfl hi748 hj749) (fun W hO => hO.selT (Ls := [Blk b6 [.slice none 0 0, .int .i64 0, .int .i64 0, .int .i64 0, .int .i64 0] 28, Blk b7 [.slice A541 l540.length c542, .int .i64 a0.f1.f0, .int .i64 a0.f1.f1, .int .i64 a0.f1.f2, .int .i64 a0.f1.f3] 28]) [1, 2] 3 rfl rfl rfl) ?_
     refine TA.take 7 rfl (by kernel_rfl) rfl (PQ.inB (PQ.then_ (PQ.inB (PQ.then_ PQ.body)))) rfl (Val.loadS agg3 rfl (hcl750 0 _ rfl)) (fun W hO => hO.selT (Ls := [Blk b6 [.slice none 0 0, .int .i64 0, .int .i64 0, .int .i64 0, .int .i64 0] 28, Blk b7 [.slice A541 l540.length c542, .int .i64 a0.f1.f0, .int .i64 a0.f1.f1, .int .i64 a0.f1.f2, .int .i64 a0.f1.f3] 28]) [1, 2] 3 rfl rfl rfl) ?_
     refine TA.take 8 rfl (by kernel_rfl) rfl (PQ.inB (PQ.then_ (PQ.inB (PQ.then_ PQ.body)))) rfl (Val.cmp rfl rfl run_add) (fun W hO => hO.selT (Ls := [Blk b6 [.slice none 0 0, .int .i64 0, .int .i64 0, .int .i64 0, .int .i64 0] 28, Blk b7 [.slice A541 l540.length c542, .int .i64 a0.f1.f0, .int .i64 a0.f1.f1, .int .i64 a0.f1.f2, .int .i64 a0.f1.f3] 28]) [1, 2] 3 rfl rfl rfl) ?_
     obtain ⟨y753, hy754, h⟩ := bind_no h
     refine TA.eff 9 rfl (by kernel_rfl) rfl (TL.callV (Lin := [Row k30 30 (.slice A541 l540.length c542) l540]) (args := [.slice A541 l540.length c542, .int .i64 y744, .int .i64 (IntKind.i64.wrap (y744 + 1))]) rfl rfl rfl hbd38 rfl rfl (slices_Delete_api_Op_api_Op.calls (a0 := l540) (a1 := y744) (a2 := IntKind.i64.wrap (y744 + 1)) hy754) rfl ?_)
     rintro _ _ _ _ ⟨rfl, A755, c756, rfl, rfl⟩
     refine TA.last rfl ?_
     refine TA.eff 10 rfl (by kernel_rfl) rfl (TO.val rfl rfl rfl (Val.fieldAddrB Try.underlying28 rfl fsz26 rfl rfl rfl) ?_)
     refine TA.last rfl ?_
     refine TA.eff 11 rfl (by kernel_rfl) rfl (TL.store 2 (ds := [.slice A755 y753.length c756]) (cs' := [.slice A755 y753.length c756, .int .i64 a0.f1.f0, .int .i64 a0.f1.f1, .int .i64 a0.f1.f2, .int .i64 a0.f1.f3]) (L' := (Row k30 30 (.slice A755 y753.length c756) y753 :: Blk b6 [.slice none 0 0, .int .i64 0, .int .i64 0, .int .i64 0, .int .i64 0] 28 :: Blk b7 [.slice A755 y753.length c756, .int .i64 a0.f1.f0, .int .i64 a0.f1.f1, .int .i64 a0.f1.f2, .int .i64 a0.f1.f3] 28 :: L)) rfl fsz26 rfl rfl rfl rfl rfl (Nat.le_of_ble_eq_true rfl) rfl rfl ?_)
     refine TA.last rfl ?_
     refine TA.done (by kernel_rfl) ?_
     refine TQ.inB ?_
     refine TQ.back hb741 ?_
     exact fun a W hF hO => ⟨y753, A755, c756, h, hF.sub ⟨rfl, rfl, trivial⟩, hO.selT (Ls := [Blk b6 [.slice none 0 0, .int .i64 0, .int .i64 0, .int .i64 0, .int .i64 0] 28, Blk b7 [.slice A755 y753.length c756, .int .i64 a0.f1.f0, .int .i64 a0.f1.f1, .int .i64 a0.f1.f2, .int .i64 a0.f1.f3] 28, Row k30 30 (.slice A755 y753.length c756) y753]) [2, 3, 1] 4 rfl rfl rfl⟩
 ·
  refine TC.block ?_
  intro a W hF hO
  have hS : ∃ (x111 : Int) (l112 : (List S30)) (A113 : Option Addr) (c114 : Nat), deadstore_Block.l0 a0 (a0.f0.length + 1) x111 l112 = some o168 ∧ Fr 45 a [(2, .pointer (some ⟨b6, 0, none⟩)), (3, .pointer (some ⟨b7, 0, none⟩)), (11, .slice A1 a0.f0.length c2), (12, .int .i64 (a0.f0.length : Int)), (13, .int .i64 x111)] ∧ Own G (Blk b6 [.slice none 0 0, .int .i64 0, .int .i64 0, .int .i64 0, .int .i64 0] 28 :: Blk b7 [.slice A113 l112.length c114, .int .i64 a0.f1.f0, .int .i64 a0.f1.f1, .int .i64 a0.f1.f2, .int .i64 a0.f1.f3] 28 :: Row k30 30 (.slice A113 l112.length c114) l112 :: L) W := by
   exact ⟨0, [], none, 0, ho168, hF.sub ⟨rfl, rfl, rfl, rfl, rfl, trivial⟩, (Own.nilRow k30 30 hO).selT (Ls := [Blk b6 [.slice none 0 0, .int .i64 0, .int .i64 0, .int .i64 0, .int .i64 0] 28, Blk b7 [.slice none ([] : List S30).length 0, .int .i64 a0.f1.f0, .int .i64 a0.f1.f1, .int .i64 a0.f1.f2, .int .i64 a0.f1.f3] 28, Row k30 30 (.slice none ([] : List S30).length 0) ([] : List S30)]) [2, 1, 0] 4 rfl rfl rfl⟩
  clear hF hO ho168 ko168
  refine TC.loop (fun n169 a W => ∃ (x111 : Int) (l112 : (List S30)) (A113 : Option Addr) (c114 : Nat), deadstore_Block.l0 a0 n169 x111 l112 = some o168 ∧ Fr 45 a [(2, .pointer (some ⟨b6, 0, none⟩)), (3, .pointer (some ⟨b7, 0, none⟩)), (11, .slice A1 a0.f0.length c2), (12, .int .i64 (a0.f0.length : Int)), (13, .int .i64 x111)] ∧ Own G (Blk b6 [.slice none 0 0, .int .i64 0, .int .i64 0, .int .i64 0, .int .i64 0] 28 :: Blk b7 [.slice A113 l112.length c114, .int .i64 a0.f1.f0, .int .i64 a0.f1.f1, .int .i64 a0.f1.f2, .int .i64 a0.f1.f3] 28 :: Row k30 30 (.slice A113 l112.length c114) l112 :: L) W) ?_ ?_ hS
  ·
   rintro a W ⟨x111, l112, A113, c114, h, hF, hO⟩
   exact none_no h
  ·
   clear hS
   rintro n169 a W ⟨x111, l112, A113, c114, h, hF, hO⟩
   rw [deadstore_Block.l0] at h
   refine TC.use ?_ hF hO
   clear hF hO
   refine TC.seq ?_
   refine TC.region ?_
   refine TL.cons (TO.val rfl rfl rfl (Val.cmp rfl rfl run_lss) ?_)
   refine TL.nil ?_
   refine TQ.then_ ?_
   refine TC.seq ?_
   refine TC.cond_p rfl h (fun hc759 h => ?_) (fun hc759 h => ?_)
   ·
    refine TC.skip ?_
    refine TQ.then_ ?_
    refine TC.seq ?_
    refine TC.block ?_
    refine TC.seq ?_
    refine TC.region ?_
    obtain ⟨y783, hx784, h⟩ := bind_no h
    obtain ⟨ad785, cs791, hA786, hi787, hj788, hcl789, hK790⟩ := Rd.at hr3 hx784
    obtain ⟨A792, c793, rfl, hr794, hl795⟩ := k30_openR hK790
    refine TL.cons (TO.val rfl rfl rfl (Val.indexAddr Try.underlying26 fsz30 rfl hA786 rfl hi787 hj788) ?_)
    refine TL.cons (TO.val rfl rfl rfl (Val.loadsS (cs := [.int .i64 y783.f0, .int .i64 y783.f1, .int .i64 y783.f2, .int .i64 y783.f3, .int .i64 y783.f4, .slice A792 y783.f5.length c793]) agg30 fsz30 rfl rfl (Cl.sub (off := 0) (n := 6) hcl789 rfl)) ?_)
    refine TL.cons (TL.alloc (cs := [.int .i64 0, .int .i64 0, .int .i64 0, .int .i64 0, .int .i64 0, .slice none 0 0]) rfl rfl zr30 rfl (fun b796 => ?_))
    refine TL.cons (TL.store 0 (ds := [.int .i64 y783.f0, .int .i64 y783.f1, .int .i64 y783.f2, .int .i64 y783.f3, .int .i64 y783.f4, .slice A792 y783.f5.length c793]) (cs' := [.int .i64 y783.f0, .int .i64 y783.f1, .int .i64 y783.f2, .int .i64 y783.f3, .int .i64 y783.f4, .slice A792 y783.f5.length c793]) (L' := (Blk b796 [.int .i64 y783.f0, .int .i64 y783.f1, .int .i64 y783.f2, .int .i64 y783.f3, .int .i64 y783.f4, .slice A792 y783.f5.length c793] 30 :: Blk b6 [.slice none 0 0, .int .i64 0, .int .i64 0, .int .i64 0, .int .i64 0] 28 :: Blk b7 [.slice A113 l112.length c114, .int .i64 a0.f1.f0, .int .i64 a0.f1.f1, .int .i64 a0.f1.f2, .int .i64 a0.f1.f3] 28 :: Row k30 30 (.slice A113 l112.length c114) l112 :: L)) rfl fsz30 rfl rfl rfl rfl rfl (Nat.le_of_ble_eq_true rfl) rfl rfl ?_)
    refine TL.nil ?_
    refine TQ.then_ ?_
    refine TC.seq ?_
    refine TC.region ?_
    refine TL.cons (TO.val rfl rfl rfl (Val.fieldAddrB Try.underlying30 rfl fsz22 rfl rfl rfl) ?_)
    refine TL.cons (TO.val rfl rfl rfl (Val.loadB 0 agg22 rfl rfl rfl) ?_)
    obtain ⟨y797, hy798, h⟩ := bind_no h
    refine TL.cons (TL.callV (Lin := []) (args := [.slice A792 y783.f5.length c793]) rfl rfl rfl hbd37 rfl rfl (slices_Clone_int_int.calls (a0 := y783.f5) hr794 hl795 hy798) rfl ?_)
    rintro _ _ _ _ ⟨rfl, A799, c800, rfl, rfl⟩
    refine TL.cons (TO.val rfl rfl rfl (Val.fieldAddrB Try.underlying30 rfl fsz22 rfl rfl rfl) ?_)
    refine TL.cons (TL.store 1 (ds := [.slice A799 y797.length c800]) (cs' := [.int .i64 y783.f0, .int .i64 y783.f1, .int .i64 y783.f2, .int .i64 y783.f3, .int .i64 y783.f4, .slice A799 y797.length c800]) (L' := (Row (Kd.int .i64) 3 (.slice A799 y797.length c800) y797 :: Blk b796 [.int .i64 y783.f0, .int .i64 y783.f1, .int .i64 y783.f2, .int .i64 y783.f3, .int .i64 y783.f4, .slice A799 y797.length c800] 30 :: Blk b6 [.slice none 0 0, .int .i64 0, .int .i64 0, .int .i64 0, .int .i64 0] 28 :: Blk b7 [.slice A113 l112.length c114, .int .i64 a0.f1.f0, .int .i64 a0.f1.f1, .int .i64 a0.f1.f2, .int .i64 a0.f1.f3] 28 :: Row k30 30 (.slice A113 l112.length c114) l112 :: L)) rfl fsz22 rfl rfl rfl rfl rfl (Nat.le_of_ble_eq_true rfl) rfl rfl ?_)
    refine TL.nil ?_
    refine TQ.then_ ?_
    refine TC.region ?_
    refine TL.cons (TO.val rfl rfl rfl (Val.fieldAddrB Try.underlying28 rfl fsz26 rfl rfl rfl) ?_)
    refine TL.cons (TO.val rfl rfl rfl (Val.loadB 3 agg26 rfl rfl rfl) ?_)
    refine TL.cons (TO.val rfl rfl rfl (Val.loadsB 1 (cs := [.int .i64 y783.f0, .int .i64 y783.f1, .int .i64 y783.f2, .int .i64 y783.f3, .int .i64 y783.f4, .slice A799 y797.length c800]) agg30 fsz30 rfl rfl rfl rfl) ?_)
    refine TL.cons (TL.buildSlice (xs := [.tmp 23]) (vs := [.agg #[.int .i64 y783.f0, .int .i64 y783.f1, .int .i64 y783.f2, .int .i64 y783.f3, .int .i64 y783.f4, .slice A799 y797.length c800]]) (cs := [.int .i64 y783.f0, .int .i64 y783.f1, .int .i64 y783.f2, .int .i64 y783.f3, .int .i64 y783.f4, .slice A799 y797.length c800]) rfl rfl Try.underlying26 zs30 rfl rfl rfl rfl rfl rfl rfl rfl (fun b802 => ?_))
    refine TK.sel (Ls := [Row (Kd.int .i64) 3 (.slice A799 y797.length c800) y797, Blk b802 [.int .i64 y783.f0, .int .i64 y783.f1, .int .i64 y783.f2, .int .i64 y783.f3, .int .i64 y783.f4, .slice A799 y797.length c800] 30, Blk b796 [.int .i64 y783.f0, .int .i64 y783.f1, .int .i64 y783.f2, .int .i64 y783.f3, .int .i64 y783.f4, .slice A799 y797.length c800] 30, Blk b6 [.slice none 0 0, .int .i64 0, .int .i64 0, .int .i64 0, .int .i64 0] 28, Blk b7 [.slice A113 l112.length c114, .int .i64 a0.f1.f0, .int .i64 a0.f1.f1, .int .i64 a0.f1.f2, .int .i64 a0.f1.f3] 28, Row k30 30 (.slice A113 l112.length c114) l112]) [1, 0, 2, 3, 4, 5] 6 rfl rfl rfl ?_
    refine TK.conv (ch' := El k30 (⟨y783.f0, y783.f1, y783.f2, y783.f3, y783.f4, y797⟩ : S30) [.int .i64 y783.f0, .int .i64 y783.f1, .int .i64 y783.f2, .int .i64 y783.f3, .int .i64 y783.f4, .slice A799 y797.length c800]) (fun B W F hh => k30_mkM W B F (⟨y783.f0, y783.f1, y783.f2, y783.f3, y783.f4, y797⟩ : S30) hh) ?_
    refine TK.sel (Ls := [Row k30 30 (.slice A113 l112.length c114) l112, El k30 (⟨y783.f0, y783.f1, y783.f2, y783.f3, y783.f4, y797⟩ : S30) [.int .i64 y783.f0, .int .i64 y783.f1, .int .i64 y783.f2, .int .i64 y783.f3, .int .i64 y783.f4, .slice A799 y797.length c800], Blk b802 [.int .i64 y783.f0, .int .i64 y783.f1, .int .i64 y783.f2, .int .i64 y783.f3, .int .i64 y783.f4, .slice A799 y797.length c800] 30, Blk b796 [.int .i64 y783.f0, .int .i64 y783.f1, .int .i64 y783.f2, .int .i64 y783.f3, .int .i64 y783.f4, .slice A799 y797.length c800] 30, Blk b6 [.slice none 0 0, .int .i64 0, .int .i64 0, .int .i64 0, .int .i64 0] 28, Blk b7 [.slice A113 l112.length c114, .int .i64 a0.f1.f0, .int .i64 a0.f1.f1, .int .i64 a0.f1.f2, .int .i64 a0.f1.f3] 28]) [5, 0, 1, 2, 3, 4] 6 rfl rfl rfl ?_
    obtain ⟨ha803, h⟩ := ite_no h
    refine TL.cons (TL.append (xs := l112) k30 rfl rfl Try.underlying26 inf30 rfl (Nat.le_of_ble_eq_true rfl) (Nat.le_of_ble_eq_true rfl) rfl rfl (by omega) (fun A804 c805 => ?_))
    refine TL.cons (TO.val rfl rfl rfl (Val.fieldAddrB Try.underlying28 rfl fsz26 rfl rfl rfl) ?_)
    refine TL.cons (TL.store 3 (ds := [.slice A804 (l112 ++ [(⟨y783.f0, y783.f1, y783.f2, y783.f3, y783.f4, y797⟩ : S30)]).length c805]) (cs' := [.slice A804 (l112 ++ [(⟨y783.f0, y783.f1, y783.f2, y783.f3, y783.f4, y797⟩ : S30)]).length c805, .int .i64 a0.f1.f0, .int .i64 a0.f1.f1, .int .i64 a0.f1.f2, .int .i64 a0.f1.f3]) (L' := (Row k30 30 (.slice A804 (l112 ++ [(⟨y783.f0, y783.f1, y783.f2, y783.f3, y783.f4, y797⟩ : S30)]).length c805) (l112 ++ [(⟨y783.f0, y783.f1, y783.f2, y783.f3, y783.f4, y797⟩ : S30)]) :: Blk b796 [.int .i64 y783.f0, .int .i64 y783.f1, .int .i64 y783.f2, .int .i64 y783.f3, .int .i64 y783.f4, .slice A799 y797.length c800] 30 :: Blk b6 [.slice none 0 0, .int .i64 0, .int .i64 0, .int .i64 0, .int .i64 0] 28 :: Blk b7 [.slice A804 (l112 ++ [(⟨y783.f0, y783.f1, y783.f2, y783.f3, y783.f4, y797⟩ : S30)]).length c805, .int .i64 a0.f1.f0, .int .i64 a0.f1.f1, .int .i64 a0.f1.f2, .int .i64 a0.f1.f3] 28 :: L)) rfl fsz26 rfl rfl rfl rfl rfl (Nat.le_of_ble_eq_true rfl) rfl rfl ?_)
    refine TL.nil ?_
    refine TQ.inB ?_
    refine TQ.then_ ?_
    refine TC.region ?_
    refine TL.cons (TO.val rfl rfl rfl (Val.cmp rfl rfl run_add) ?_)
    refine TL.cons (TO.val rfl rfl rfl (Val.move rfl) ?_)
    refine TL.nil ?_
    exact fun a W hF hO => ⟨IntKind.i64.wrap (x111 + 1), (l112 ++ [(⟨y783.f0, y783.f1, y783.f2, y783.f3, y783.f4, y797⟩ : S30)]), A804, c805, h, hF.sub ⟨rfl, rfl, rfl, rfl, rfl, trivial⟩, hO.selT (Ls := [Blk b6 [.slice none 0 0, .int .i64 0, .int .i64 0, .int .i64 0, .int .i64 0] 28, Blk b7 [.slice A804 (l112 ++ [(⟨y783.f0, y783.f1, y783.f2, y783.f3, y783.f4, y797⟩ : S30)]).length c805, .int .i64 a0.f1.f0, .int .i64 a0.f1.f1, .int .i64 a0.f1.f2, .int .i64 a0.f1.f3] 28, Row k30 30 (.slice A804 (l112 ++ [(⟨y783.f0, y783.f1, y783.f2, y783.f3, y783.f4, y797⟩ : S30)]).length c805) (l112 ++ [(⟨y783.f0, y783.f1, y783.f2, y783.f3, y783.f4, y797⟩ : S30)])]) [2, 3, 0] 4 rfl rfl rfl⟩
   ·
    refine TC.exit ?_
    refine TQ.thenX ?_
    refine TQ.thenX ?_
    refine TQ.inBX ?_
    exact fun a W hF hO => ⟨l112, A113, c114, Option.some.inj h, hF.sub ⟨rfl, rfl, trivial⟩, hO.selT (Ls := [Blk b6 [.slice none 0 0, .int .i64 0, .int .i64 0, .int .i64 0, .int .i64 0] 28, Blk b7 [.slice A113 l112.length c114, .int .i64 a0.f1.f0, .int .i64 a0.f1.f1, .int .i64 a0.f1.f2, .int .i64 a0.f1.f3] 28, Row k30 30 (.slice A113 l112.length c114) l112]) [0, 1, 2] 3 rfl rfl rfl⟩
end Go.Proofs.Ytmacdhkfgoahcaa.Sy
set_option linter.unusedVariables false
set_option linter.unusedSimpArgs false
namespace Go.Proofs.Ytmacdhkfgoahcaa.Sy
open Go Go.RowKit Go.Proofs.YtmacdhkfgoahcaaW.PrintWords Go.Proofs.Ytmacdhkfgoahcaa.Q Go.Proofs.Ytmacdhkfgoahcaa.Fo Go.Proofs.Ytmacdhkfgoahcaa.De
theorem at_nat {α : Type} (xs : List α) (k : Nat) : at? xs (k : Int) = xs[k]? := by
  unfold at?; rw [if_pos (by omega), Int.toNat_natCast]
theorem wrap_small {n : Int} (h0 : -9223372036854775808 ≤ n) (h1 : n ≤ 9223372036854775807) : IntKind.i64.wrap n = n := by
  rw [IntKind.wrap_i64]; omega
theorem wrap_succ {k : Nat} (h : k < 9223372036854775807) : IntKind.i64.wrap ((k : Int) + 1) = ((k + 1 : Nat) : Int) := by
  rw [wrap_small (by omega) (by omega)]; omega
/-- The state behind a row, from its end. -/
def bk : List S30 → St
  | [] => st0
  | x :: r => stepP (bk r) x
def hit (t : St) (x : S30) : Bool := t.is && (t.a == x.f2) && (t.imm == x.f4) && !(t.s x.f2)
theorem deadP_hit (t : St) (x : S30) : deadP t x = ((x.f0 == 5) && hit t x) := rfl
def dd : List S30 → List Bool
  | [] => []
  | x :: r => deadP (bk r) x :: dd r
def idx : Nat → List Bool → List Int
  | _, [] => []
  | i, true :: r => (i : Int) :: idx (i + 1) r
  | i, false :: r => idx (i + 1) r
theorem goBack_spec (xs : List S30) : ∀ k, k ≤ xs.length → (goBack xs k).1 = bk (xs.drop (xs.length - k)) ∧ (goBack xs k).2.reverse = idx (xs.length - k) (dd (xs.drop (xs.length - k)))
  | 0, _ => by simp [goBack, bk, dd, idx]
  | k + 1, hk => by
    obtain ⟨h1, h2⟩ := goBack_spec xs k (by omega)
    have hlt : xs.length - 1 - k < xs.length := by omega
    have hd : xs.drop (xs.length - (k + 1)) = xs[xs.length - 1 - k] :: xs.drop (xs.length - k) := by
      rw [show xs.length - (k + 1) = xs.length - 1 - k by omega, List.drop_eq_getElem_cons hlt, show xs.length - 1 - k + 1 = xs.length - k by omega]
    have hg : xs.getD (xs.length - 1 - k) z30 = xs[xs.length - 1 - k] := by simp [hlt]
    rw [hd]
    refine ⟨?_, ?_⟩
    · simp only [goBack, hg, h1, bk]
    · simp only [goBack, hg, h1, dd]
      rw [show xs.length - (k + 1) = xs.length - 1 - k by omega]
      cases deadP (bk (xs.drop (xs.length - k))) xs[xs.length - 1 - k]
      · simp only [Bool.false_eq_true, if_false, idx, h2]
        rw [show xs.length - 1 - k + 1 = xs.length - k by omega]
      · simp only [if_true, List.reverse_append, List.reverse_cons, List.reverse_nil, List.nil_append, List.cons_append, idx, h2]
        rw [show xs.length - 1 - k + 1 = xs.length - k by omega]
theorem deadL_idx (xs : List S30) : deadL xs = idx 0 (dd xs) := by
  have := (goBack_spec xs xs.length (Nat.le_refl _)).2
  rwa [Nat.sub_self, List.drop_zero] at this
/-- What is left. -/
def keep : List S30 → List S30
  | [] => []
  | x :: r => if deadP (bk r) x = true then keep r else x :: keep r
theorem hit_store (t : St) {x : S30} (hx : (x.f0 == 5) = true) (z : S30) : hit (stepP t x) z = ((x.f2 == z.f2) && (x.f4 == z.f4)) := by
  simp [hit, stepP, hx]
theorem hit_pure (t : St) {x : S30} (hx : (x.f0 == 5) = false) (hp : pureB x = true) (z : S30) : hit (stepP t x) z = (hit t z && !(z.f2 == setsI x)) := by
  simp only [hit, stepP, hx, hp, if_true, add, Bool.false_eq_true, if_false]
  cases t.is <;> cases (t.a == z.f2) <;> cases (t.imm == z.f4) <;> cases (t.s z.f2) <;> simp <;> rfl
theorem hit_else (t : St) {x : S30} (hx : (x.f0 == 5) = false) (hp : pureB x = false) (z : S30) : hit (stepP t x) z = false := by
  simp [hit, stepP, hx, hp]
theorem hit_step {t t' : St} (h : ∀ z, hit t z = hit t' z) (x z : S30) : hit (stepP t x) z = hit (stepP t' x) z := by
  rcases Bool.eq_false_or_eq_true (x.f0 == 5) with hx | hx
  · rw [hit_store t hx, hit_store t' hx]
  · rcases Bool.eq_false_or_eq_true (pureB x) with hp | hp
    · rw [hit_pure t hx hp, hit_pure t' hx hp, h]
    · rw [hit_else t hx hp, hit_else t' hx hp]
/-- A store that need not be is not missed. -/
theorem hit_dead {t : St} {x : S30} (h : deadP t x = true) (z : S30) : hit (stepP t x) z = hit t z := by
  rw [deadP_hit] at h
  obtain ⟨hx, hh⟩ := (Bool.and_eq_true _ _).mp h
  rw [hit_store t hx]
  simp only [hit, Bool.and_eq_true, beq_iff_eq, Bool.not_eq_true'] at hh
  obtain ⟨⟨⟨h1, h2⟩, h3⟩, h4⟩ := hh
  simp only [hit, h1, h2, h3, Bool.true_and]
  by_cases e : x.f2 = z.f2
  · rw [← e, h4]; simp
  · simp [e]
theorem hit_keep : ∀ (l : List S30) (z : S30), hit (bk (keep l)) z = hit (bk l) z
  | [], _ => rfl
  | x :: r, z => by
    unfold keep
    by_cases h : deadP (bk r) x = true
    · rw [if_pos h, hit_keep r z]; exact (hit_dead h z).symm
    · rw [if_neg h]; exact hit_step (hit_keep r) x z
theorem dead_keep (l : List S30) (x : S30) : deadP (bk (keep l)) x = deadP (bk l) x := by rw [deadP_hit, deadP_hit, hit_keep]
theorem dd_keep : ∀ (l : List S30), ∀ b ∈ dd (keep l), b = false
  | [], b, hb => by cases hb
  | x :: r, b, hb => by
    unfold keep at hb
    by_cases h : deadP (bk r) x = true
    · rw [if_pos h] at hb; exact dd_keep r b hb
    · rw [if_neg h] at hb
      rcases List.mem_cons.1 hb with rfl | hb
      · rw [dead_keep]; simpa using h
      · exact dd_keep r b hb
theorem idx_false : ∀ (bs : List Bool) (i : Nat), (∀ b ∈ bs, b = false) → idx i bs = []
  | [], _, _ => rfl
  | b :: r, i, h => by
    obtain rfl := h b (by simp)
    exact idx_false r (i + 1) (fun b hb => h b (by simp [hb]))
theorem deadL_keep (l : List S30) : deadL (keep l) = [] := by rw [deadL_idx]; exact idx_false _ _ (dd_keep l)
/-- The first that need not be. -/
theorem first_dead : ∀ (l : List S30) (i : Nat), (idx i (dd l) = [] ∧ keep l = l) ∨ ∃ j r, idx i (dd l) = ((i + j : Nat) : Int) :: r ∧ j < l.length ∧ keep (l.take j ++ l.drop (j + 1)) = keep l
  | [], i => .inl ⟨rfl, rfl⟩
  | x :: r, i => by
    by_cases h : deadP (bk r) x = true
    · refine .inr ⟨0, idx (i + 1) (dd r), by simp [dd, h, idx], by simp, ?_⟩
      simp [keep, h]
    · have hf : deadP (bk r) x = false := by simpa using h
      rcases first_dead r (i + 1) with ⟨h1, h2⟩ | ⟨j, q, h1, h2, h3⟩
      · exact .inl ⟨by simp [dd, hf, idx, h1], by simp [keep, hf, h2]⟩
      · refine .inr ⟨j + 1, q, ?_, by simpa using h2, ?_⟩
        · simp only [dd, hf, idx, h1]; congr 2; omega
        · have hb : deadP (bk (r.take j ++ r.drop (j + 1))) x = false := by
            rw [← dead_keep, h3, dead_keep]; exact hf
          simp [keep, hf, hb, h3]
end Go.Proofs.Ytmacdhkfgoahcaa.Sy
set_option linter.unusedVariables false
set_option linter.unusedSimpArgs false
set_option maxRecDepth 100000
set_option maxHeartbeats 4000000
namespace Go.Proofs.Ytmacdhkfgoahcaa.Sy
open Go Go.RowKit Go.Proofs.YtmacdhkfgoahcaaW.PrintWords Go.Proofs.Ytmacdhkfgoahcaa.Q
def deadstore_Stores.l1 (y909 : S28) : Nat → Int → Int → Option (Int)
 | 0, _, _ => none
 | n1043 + 1, x1001, x1002 => (if x1002 < (y909.f0.length : Int) then (at? y909.f0 x1002).bind fun y1100 => jn (γ := (Int)) (fun (x1115 : Int) => deadstore_Stores.l1 y909 n1043 x1115 (IntKind.i64.wrap (x1002 + 1))) (fun (j1116 : (Int → Option (Int))) => (if y1100.f0 = 5 then j1116 (IntKind.i64.wrap (x1001 + 1)) else j1116 x1001)) else some x1001)
def deadstore_Stores.l0 (a0 : S36) : Nat → Int → Int → Option (Int)
 | 0, _, _ => none
 | n591 + 1, x394, x395 => (if x395 < (a0.f1.length : Int) then (at? a0.f1 x395).bind fun y909 => (deadstore_Stores.l1 y909 (y909.f0.length + 1) x394 0).bind fun (x1041 : Int) => deadstore_Stores.l0 a0 n591 x1041 (IntKind.i64.wrap (x395 + 1)) else some x394)
def deadstore_Stores.f (a0 : S36) : Option Int := (deadstore_Stores.l0 a0 (a0.f1.length + 1) 0 0).bind fun (x589 : Int) => some x589
def deadstore_Stores.post (G : Gd)  (r : Int) (v : Value) (G' : Gd) (Lr : List Ch) : Prop := G = G' ∧ v = .int .i64 r ∧ Lr = []
theorem deadstore_Stores.calls {G : Gd} {r : Int} {a0 : S36} {A1 : Option Addr} {c2 : Nat} (hr3 : Rd G k28 A1 a0.f1) (hl4 : a0.f1.length ≤ c2) (h : deadstore_Stores.f a0 = some r) : Fn Try.prog 12 G [] [.agg #[.int .i64 a0.f0, .slice A1 a0.f1.length c2]] (deadstore_Stores.post G  r) := by
 refine Fn.intro (e := [(0, .agg #[.int .i64 a0.f0, .slice A1 a0.f1.length c2])]) 30 Try.func12 rfl Try.ntmps12 rfl rfl (Nat.le_of_ble_eq_true rfl) (fun L => ?_)
 unfold deadstore_Stores.f at h
 refine TC.seq ?_
 refine TC.region ?_
 refine TL.cons (TL.box (cs := [.int .i64 a0.f0, .slice A1 a0.f1.length c2]) rfl rfl rfl rfl (fun b5 => ?_))
 refine TL.cons (TO.val rfl rfl rfl (Val.assign rfl) ?_)
 refine TL.nil ?_
 refine TQ.then_ ?_
 refine TC.seq ?_
 refine TC.region ?_
 refine TL.cons (TO.val rfl rfl rfl (Val.assign rfl) ?_)
 refine TL.nil ?_
 refine TQ.then_ ?_
 refine TC.seq ?_
 refine TC.seq ?_
 refine TC.region ?_
 refine TL.cons (TO.val rfl rfl rfl (Val.fieldAddrB Try.underlying36 rfl fsz34 rfl rfl rfl) ?_)
 refine TL.cons (TO.val rfl rfl rfl (Val.loadB 0 agg34 rfl rfl rfl) ?_)
 refine TL.cons (TO.val rfl rfl rfl (Val.len Try.underlying34 rfl) ?_)
 refine TL.cons (TO.val rfl rfl rfl (Val.move rfl) ?_)
 refine TL.nil ?_
 refine TQ.then_ ?_
 obtain ⟨o590, ho590, ko590⟩ := bind_no h
 clear h
 refine TC.tail (fun a W => ∃ (x589 : Int), x589 = o590 ∧ Fr 30 a [(3, .int .i64 x589)] ∧ Own G (L) W) ?_ ?_
 ·
  rintro a W ⟨x589, rfl, hF, hO⟩
  have h := ko590
  clear ko590 ho590
  refine TQ.use ?_ hF hO
  clear hF hO
  refine TQ.then_ ?_
  refine TC.seq ?_
  refine TC.region ?_
  refine TL.cons (TO.val rfl rfl rfl (Val.move rfl) ?_)
  refine TL.cons (TO.val rfl rfl rfl (Val.assign rfl) ?_)
  refine TL.nil ?_
  refine TQ.then_ ?_
  refine TC.ret ?_
  obtain rfl := Option.some.inj h
  exact TQ.fin (.inl rfl) rfl Try.results12 (.tmp rfl .nil) rfl (FRel.mk (Ls := []) [] 0 (Gd.le.refl _) rfl rfl rfl ⟨rfl, rfl, rfl⟩)
 ·
  refine TC.block ?_
  intro a W hF hO
  have hS : ∃ (x394 : Int) (x395 : Int), deadstore_Stores.l0 a0 (a0.f1.length + 1) x394 x395 = some o590 ∧ Fr 30 a [(3, .int .i64 x394), (9, .slice A1 a0.f1.length c2), (10, .int .i64 (a0.f1.length : Int)), (11, .int .i64 x395)] ∧ Own G (L) W := by
   exact ⟨0, 0, ho590, hF.sub ⟨rfl, rfl, rfl, rfl, trivial⟩, hO.selT (Ls := []) [] 1 rfl rfl rfl⟩
  clear hF hO ho590 ko590
  refine TC.loop (fun n591 a W => ∃ (x394 : Int) (x395 : Int), deadstore_Stores.l0 a0 n591 x394 x395 = some o590 ∧ Fr 30 a [(3, .int .i64 x394), (9, .slice A1 a0.f1.length c2), (10, .int .i64 (a0.f1.length : Int)), (11, .int .i64 x395)] ∧ Own G (L) W) ?_ ?_ hS
  ·
   rintro a W ⟨x394, x395, h, hF, hO⟩
   exact none_no h
  ·
   clear hS
   rintro n591 a W ⟨x394, x395, h, hF, hO⟩
   rw [deadstore_Stores.l0] at h
   refine TC.use ?_ hF hO
   clear hF hO
   refine TC.seq ?_
   refine TC.region ?_
   refine TL.cons (TO.val rfl rfl rfl (Val.cmp rfl rfl run_lss) ?_)
   refine TL.nil ?_
   refine TQ.then_ ?_
   refine TC.seq ?_
   refine TC.cond_p rfl h (fun hc784 h => ?_) (fun hc784 h => ?_)
   ·
    refine TC.skip ?_
    refine TQ.then_ ?_
    refine TC.seq ?_
    refine TC.block ?_
    refine TC.seq ?_
    refine TC.region ?_
    obtain ⟨y909, hx910, h⟩ := bind_no h
    obtain ⟨ad911, cs917, hA912, hi913, hj914, hcl915, hK916⟩ := Rd.at hr3 hx910
    obtain ⟨A918, c919, rfl, hr920, hl921⟩ := k28_openR hK916
    refine TL.cons (TO.val rfl rfl rfl (Val.indexAddr Try.underlying34 fsz28 rfl hA912 rfl hi913 hj914) ?_)
    refine TL.cons (TO.val rfl rfl rfl (Val.loadsS (cs := [.slice A918 y909.f0.length c919, .int .i64 y909.f1.f0, .int .i64 y909.f1.f1, .int .i64 y909.f1.f2, .int .i64 y909.f1.f3]) agg28 fsz28 rfl rfl (Cl.sub (off := 0) (n := 5) hcl915 rfl)) ?_)
    refine TL.cons (TL.alloc (cs := [.slice none 0 0, .int .i64 0, .int .i64 0, .int .i64 0, .int .i64 0]) rfl rfl zr28 rfl (fun b922 => ?_))
    refine TL.cons (TL.store 0 (ds := [.slice A918 y909.f0.length c919, .int .i64 y909.f1.f0, .int .i64 y909.f1.f1, .int .i64 y909.f1.f2, .int .i64 y909.f1.f3]) (cs' := [.slice A918 y909.f0.length c919, .int .i64 y909.f1.f0, .int .i64 y909.f1.f1, .int .i64 y909.f1.f2, .int .i64 y909.f1.f3]) (L' := (Blk b922 [.slice A918 y909.f0.length c919, .int .i64 y909.f1.f0, .int .i64 y909.f1.f1, .int .i64 y909.f1.f2, .int .i64 y909.f1.f3] 28 :: L)) rfl fsz28 rfl rfl rfl rfl rfl (Nat.le_of_ble_eq_true rfl) rfl rfl ?_)
    refine TL.nil ?_
    refine TQ.then_ ?_
    refine TC.seq ?_
    refine TC.region ?_
    refine TL.cons (TO.val rfl rfl rfl (Val.fieldAddrB Try.underlying28 rfl fsz26 rfl rfl rfl) ?_)
    refine TL.cons (TO.val rfl rfl rfl (Val.loadB 0 agg26 rfl rfl rfl) ?_)
    refine TL.cons (TO.val rfl rfl rfl (Val.len Try.underlying26 rfl) ?_)
    refine TL.cons (TO.val rfl rfl rfl (Val.move rfl) ?_)
    refine TL.nil ?_
    refine TQ.then_ ?_
    obtain ⟨o1042, ho1042, ko1042⟩ := bind_no h
    clear h
    refine TC.tail (fun a W => ∃ (x1041 : Int), x1041 = o1042 ∧ Fr 30 a [(3, .int .i64 x1041), (9, .slice A1 a0.f1.length c2), (10, .int .i64 (a0.f1.length : Int)), (11, .int .i64 x395)] ∧ Own G (L) W) ?_ ?_
    ·
     rintro a W ⟨x1041, rfl, hF, hO⟩
     have h := ko1042
     clear ko1042 ho1042
     refine TQ.use ?_ hF hO
     clear hF hO
     refine TQ.inB ?_
     refine TQ.then_ ?_
     refine TC.region ?_
     refine TL.cons (TO.val rfl rfl rfl (Val.cmp rfl rfl run_add) ?_)
     refine TL.cons (TO.val rfl rfl rfl (Val.move rfl) ?_)
     refine TL.nil ?_
     exact fun a W hF hO => ⟨x1041, IntKind.i64.wrap (x395 + 1), h, hF.sub ⟨rfl, rfl, rfl, rfl, trivial⟩, hO.selT (Ls := []) [] 0 rfl rfl rfl⟩
    ·
     refine TC.block ?_
     intro a W hF hO
     have hS : ∃ (x1001 : Int) (x1002 : Int), deadstore_Stores.l1 y909 (y909.f0.length + 1) x1001 x1002 = some o1042 ∧ Fr 30 a [(3, .int .i64 x1001), (9, .slice A1 a0.f1.length c2), (10, .int .i64 (a0.f1.length : Int)), (11, .int .i64 x395), (16, .slice A918 y909.f0.length c919), (17, .int .i64 (y909.f0.length : Int)), (18, .int .i64 x1002)] ∧ Own G (L) W := by
      exact ⟨x394, 0, ho1042, hF.sub ⟨rfl, rfl, rfl, rfl, rfl, rfl, rfl, trivial⟩, hO.selT (Ls := []) [] 1 rfl rfl rfl⟩
     clear hF hO ho1042 ko1042
     refine TC.loop (fun n1043 a W => ∃ (x1001 : Int) (x1002 : Int), deadstore_Stores.l1 y909 n1043 x1001 x1002 = some o1042 ∧ Fr 30 a [(3, .int .i64 x1001), (9, .slice A1 a0.f1.length c2), (10, .int .i64 (a0.f1.length : Int)), (11, .int .i64 x395), (16, .slice A918 y909.f0.length c919), (17, .int .i64 (y909.f0.length : Int)), (18, .int .i64 x1002)] ∧ Own G (L) W) ?_ ?_ hS
     ·
      rintro a W ⟨x1001, x1002, h, hF, hO⟩
      exact none_no h
     ·
      clear hS
      rintro n1043 a W ⟨x1001, x1002, h, hF, hO⟩
      rw [deadstore_Stores.l1] at h
      refine TC.use ?_ hF hO
      clear hF hO
      refine TC.seq ?_
      refine TC.region ?_
      refine TL.cons (TO.val rfl rfl rfl (Val.cmp rfl rfl run_lss) ?_)
      refine TL.nil ?_
      refine TQ.then_ ?_
      refine TC.seq ?_
      refine TC.cond_p rfl h (fun hc1081 h => ?_) (fun hc1081 h => ?_)
      ·
       refine TC.skip ?_
       refine TQ.then_ ?_
       refine TC.seq ?_
       refine TC.block ?_
       refine TC.seq ?_
       refine TC.region ?_
       obtain ⟨y1100, hx1101, h⟩ := bind_no h
       obtain ⟨ad1102, cs1108, hA1103, hi1104, hj1105, hcl1106, hK1107⟩ := Rd.at hr920 hx1101
       obtain ⟨A1109, c1110, rfl, hr1111, hl1112⟩ := k30_openR hK1107
       refine TL.cons (TO.val rfl rfl rfl (Val.indexAddr Try.underlying26 fsz30 rfl hA1103 rfl hi1104 hj1105) ?_)
       refine TL.cons (TO.val rfl rfl rfl (Val.loadsS (cs := [.int .i64 y1100.f0, .int .i64 y1100.f1, .int .i64 y1100.f2, .int .i64 y1100.f3, .int .i64 y1100.f4, .slice A1109 y1100.f5.length c1110]) agg30 fsz30 rfl rfl (Cl.sub (off := 0) (n := 6) hcl1106 rfl)) ?_)
       refine TL.cons (TL.alloc (cs := [.int .i64 0, .int .i64 0, .int .i64 0, .int .i64 0, .int .i64 0, .slice none 0 0]) rfl rfl zr30 rfl (fun b1113 => ?_))
       refine TL.cons (TL.store 0 (ds := [.int .i64 y1100.f0, .int .i64 y1100.f1, .int .i64 y1100.f2, .int .i64 y1100.f3, .int .i64 y1100.f4, .slice A1109 y1100.f5.length c1110]) (cs' := [.int .i64 y1100.f0, .int .i64 y1100.f1, .int .i64 y1100.f2, .int .i64 y1100.f3, .int .i64 y1100.f4, .slice A1109 y1100.f5.length c1110]) (L' := (Blk b1113 [.int .i64 y1100.f0, .int .i64 y1100.f1, .int .i64 y1100.f2, .int .i64 y1100.f3, .int .i64 y1100.f4, .slice A1109 y1100.f5.length c1110] 30 :: L)) rfl fsz30 rfl rfl rfl rfl rfl (Nat.le_of_ble_eq_true rfl) rfl rfl ?_)
       refine TL.nil ?_
       refine TQ.then_ ?_
       refine TC.seq ?_
       refine TC.region ?_
       refine TL.cons (TO.val rfl rfl rfl (Val.fieldAddrB Try.underlying30 rfl fsz3 rfl rfl rfl) ?_)
       refine TL.cons (TO.val rfl rfl rfl (Val.loadB 0 agg3 rfl rfl rfl) ?_)
       refine TL.cons (TO.val rfl rfl rfl (Val.cmp rfl rfl run_eql) ?_)
       refine TL.nil ?_
       refine TQ.then_ ?_
       obtain ⟨j1116, hj1116, h⟩ := jn_no h
       refine TC.tail (fun a W => ∃ (x1115 : Int), j1116 x1115 = some o1042 ∧ Fr 30 a [(3, .int .i64 x1115), (9, .slice A1 a0.f1.length c2), (10, .int .i64 (a0.f1.length : Int)), (11, .int .i64 x395), (16, .slice A918 y909.f0.length c919), (17, .int .i64 (y909.f0.length : Int)), (18, .int .i64 x1002)] ∧ Own G (L) W) ?_ ?_
       ·
        rintro a W ⟨x1115, h, hF, hO⟩
        rw [hj1116] at h
        refine TQ.use ?_ hF hO
        clear hF hO
        refine TQ.inB ?_
        refine TQ.then_ ?_
        refine TC.region ?_
        refine TL.cons (TO.val rfl rfl rfl (Val.cmp rfl rfl run_add) ?_)
        refine TL.cons (TO.val rfl rfl rfl (Val.move rfl) ?_)
        refine TL.nil ?_
        exact fun a W hF hO => ⟨x1115, IntKind.i64.wrap (x1002 + 1), h, hF.sub ⟨rfl, rfl, rfl, rfl, rfl, rfl, rfl, trivial⟩, hO.selT (Ls := []) [] 0 rfl rfl rfl⟩
       ·
        refine TC.cond_p rfl h (fun hc1117 h => ?_) (fun hc1117 h => ?_)
        ·
         refine TC.region ?_
         refine TL.cons (TO.val rfl rfl rfl (Val.move rfl) ?_)
         refine TL.cons (TO.val rfl rfl rfl (Val.cmp rfl rfl run_add) ?_)
         refine TL.cons (TO.val rfl rfl rfl (Val.assign rfl) ?_)
         refine TL.nil ?_
         exact fun a W hF hO => ⟨IntKind.i64.wrap (x1001 + 1), h, hF.sub ⟨rfl, rfl, rfl, rfl, rfl, rfl, rfl, trivial⟩, hO.selT (Ls := []) [] 1 rfl rfl rfl⟩
        ·
         refine TC.skip ?_
         exact fun a W hF hO => ⟨x1001, h, hF.sub ⟨rfl, rfl, rfl, rfl, rfl, rfl, rfl, trivial⟩, hO.selT (Ls := []) [] 1 rfl rfl rfl⟩
      ·
       refine TC.exit ?_
       refine TQ.thenX ?_
       refine TQ.thenX ?_
       refine TQ.inBX ?_
       exact fun a W hF hO => ⟨x1001, Option.some.inj h, hF.sub ⟨rfl, rfl, rfl, rfl, trivial⟩, hO.selT (Ls := []) [] 0 rfl rfl rfl⟩
   ·
    refine TC.exit ?_
    refine TQ.thenX ?_
    refine TQ.thenX ?_
    refine TQ.inBX ?_
    exact fun a W hF hO => ⟨x394, Option.some.inj h, hF.sub ⟨rfl, trivial⟩, hO.selT (Ls := []) [] 0 rfl rfl rfl⟩
end Go.Proofs.Ytmacdhkfgoahcaa.Sy
set_option linter.unusedVariables false
set_option linter.unusedSimpArgs false
namespace Go.Proofs.Ytmacdhkfgoahcaa.Sy
open Go Go.RowKit Go.Proofs.YtmacdhkfgoahcaaW.PrintWords Go.Proofs.Ytmacdhkfgoahcaa.Q Go.Proofs.Ytmacdhkfgoahcaa.Fo Go.Proofs.Ytmacdhkfgoahcaa.De
theorem drop_cons {α : Type} {xs : List α} {k : Nat} {x : α} {r : List α} (h : xs.drop k = x :: r) : xs[k]? = some x ∧ k < xs.length ∧ xs.drop (k + 1) = r := by
  have hlt : k < xs.length := by
    rcases Nat.lt_or_ge k xs.length with h' | h'
    · exact h'
    · rw [List.drop_eq_nil_of_le h'] at h; cases h
  rw [List.drop_eq_getElem_cons hlt] at h
  injection h with h1 h2
  exact ⟨by rw [List.getElem?_eq_getElem hlt, h1], hlt, h2⟩
theorem drop_nil {α : Type} {xs : List α} {k : Nat} (h : xs.drop k = []) : xs.length ≤ k := by
  rcases Nat.lt_or_ge k xs.length with h' | h'
  · rw [List.drop_eq_getElem_cons h'] at h; cases h
  · exact h'
theorem clone_eq {l : List Int} (h : l.length ≤ 17592186044416) : slices_Clone_int_int.f l = some l := by
  unfold slices_Clone_int_int.f
  rw [if_pos (by simpa using h), List.nil_append]
theorem block_l0 (a0 : S28) (hl : a0.f0.length < 2199023255552) (hc : ∀ x ∈ a0.f0, x.f5.length ≤ 17592186044416) : ∀ (r : List S30) (k fuel : Nat) (acc : List S30), a0.f0.drop k = r → r.length < fuel → acc.length = k → deadstore_Block.l0 a0 fuel k acc = some (acc ++ r)
  | _, _, 0, _, _, h, _ => by omega
  | [], k, fuel + 1, acc, h, _, _ => by
    have := drop_nil h
    unfold deadstore_Block.l0
    rw [if_neg (by omega), List.append_nil]
  | x :: r, k, fuel + 1, acc, h, hf, ha => by
    obtain ⟨h1, h2, h3⟩ := drop_cons h
    unfold deadstore_Block.l0
    rw [if_pos (by omega), at_nat, h1]
    simp only [Option.bind_some]
    rw [clone_eq (hc x (List.mem_of_getElem? h1))]
    simp only [Option.bind_some]
    rw [if_pos (by omega), wrap_succ (by omega), block_l0 a0 hl hc r (k + 1) fuel _ h3 (by simpa using hf) (by simp [ha])]
    simp
/-- Numbers of their kind, rows not too long. -/
structure Fit (l : List S30) : Prop where
  wf : ∀ x ∈ l, WfOp x
  len : l.length < 1099511627776
  args : ∀ x ∈ l, x.f5.length ≤ 17592186044416
theorem dead_f {l : List S30} {t : S25} (h : Fit l) : deadstore_Dead.f ⟨l, t⟩ = some (deadL l) := by
  unfold deadstore_Dead.f
  exact if_pos ⟨h.wf, h.len⟩
theorem block_l1 (a0 : S28) : ∀ (fuel : Nat) (l : List S30), l.length < fuel → Fit l → deadstore_Block.l1 a0 fuel l = some ⟨keep l, a0.f1⟩
  | 0, _, h, _ => by omega
  | fuel + 1, l, h, hw => by
    unfold deadstore_Block.l1
    rw [dead_f hw]
    simp only [Option.bind_some]
    rcases first_dead l 0 with ⟨h1, h2⟩ | ⟨j, r, h1, h2, h3⟩
    · rw [deadL_idx, h1, if_pos (by simp), h2]
    · rw [deadL_idx, h1, Nat.zero_add, if_neg (by simp; omega)]
      have e : at? (((j : Nat) : Int) :: r) 0 = some ((j : Nat) : Int) := rfl
      have hl := hw.len
      rw [e]
      simp only [Option.bind_some]
      have hd : slices_Delete_api_Op_api_Op.f l (j : Int) (IntKind.i64.wrap ((j : Int) + 1)) = some (l.take j ++ l.drop (j + 1)) := by
        unfold slices_Delete_api_Op_api_Op.f
        rw [wrap_succ (by omega), if_pos (by omega), Int.toNat_natCast, Int.toNat_natCast]
      rw [hd]
      simp only [Option.bind_some]
      have hlen : (l.take j ++ l.drop (j + 1)).length + 1 = l.length := by rw [List.length_append, List.length_take, List.length_drop]; omega
      have hmem : ∀ x ∈ l.take j ++ l.drop (j + 1), x ∈ l := fun x hx => (List.mem_append.1 hx).elim List.mem_of_mem_take List.mem_of_mem_drop
      rw [block_l1 a0 fuel _ (by omega) ⟨fun x hx => hw.wf x (hmem x hx), by omega, fun x hx => hw.args x (hmem x hx)⟩, h3]
theorem block_f {a0 : S28} (h : Fit a0.f0) : deadstore_Block.f a0 = some ⟨keep a0.f0, a0.f1⟩ := by
  have hl := h.len
  unfold deadstore_Block.f
  rw [show (0 : Int) = ((0 : Nat) : Int) from rfl, block_l0 a0 (by omega) h.args a0.f0 0 _ [] (by simp) (by omega) rfl]
  simp only [Option.bind_some, List.nil_append]
  rw [block_l1 a0 _ _ (by omega) h]
  rfl
theorem keep_mem : ∀ {l : List S30} {x : S30}, x ∈ keep l → x ∈ l
  | [], _, h => by cases h
  | y :: r, x, h => by
    unfold keep at h
    split at h
    · exact List.mem_cons_of_mem _ (keep_mem h)
    · rcases List.mem_cons.1 h with rfl | h
      · simp
      · exact List.mem_cons_of_mem _ (keep_mem h)
theorem keep_length : ∀ (l : List S30), (keep l).length ≤ l.length
  | [] => Nat.le_refl _
  | y :: r => by
    have := keep_length r
    unfold keep
    split <;> simp <;> omega
theorem Fit.keep {l : List S30} (h : Fit l) : Fit (keep l) := ⟨fun x hx => h.wf x (keep_mem hx), Nat.lt_of_le_of_lt (keep_length l) h.len, fun x hx => h.args x (keep_mem hx)⟩
/-- How many stores. -/
def stores (l : List S30) : Nat := l.countP (fun x => x.f0 == 5)
theorem stores_l1 (y : S28) : ∀ (r : List S30) (k fuel n : Nat), y.f0.drop k = r → r.length < fuel → n + r.length < 9223372036854775807 → k + r.length < 9223372036854775807 → deadstore_Stores.l1 y fuel n k = some ((n + stores r : Nat) : Int)
  | _, _, 0, _, _, h, _, _ => by omega
  | [], k, fuel + 1, n, h, _, _, _ => by
    have := drop_nil h
    unfold deadstore_Stores.l1
    rw [if_neg (by omega)]; simp [stores]
  | x :: r, k, fuel + 1, n, h, hf, hn, hk => by
    obtain ⟨h1, h2, h3⟩ := drop_cons h
    simp only [List.length_cons] at hf hn hk
    unfold deadstore_Stores.l1
    rw [if_pos (by omega), at_nat, h1]
    simp only [Option.bind_some, jn]
    by_cases e : x.f0 = 5
    · rw [if_pos e, wrap_succ (by omega), wrap_succ (by omega), stores_l1 y r (k + 1) fuel (n + 1) h3 (by omega) (by omega) (by omega)]
      simp only [stores, List.countP_cons, e]; congr 2; simp; omega
    · rw [if_neg e, wrap_succ (by omega), stores_l1 y r (k + 1) fuel n h3 (by omega) (by omega) (by omega)]
      simp [stores, List.countP_cons, e]
def storesB (bs : List S28) : Nat := (bs.map fun b => stores b.f0).sum
def sizeB (bs : List S28) : Nat := (bs.map fun b => b.f0.length).sum
theorem stores_le (l : List S30) : stores l ≤ l.length := List.countP_le_length
theorem stores_l0 (a0 : S36) : ∀ (r : List S28) (k fuel n : Nat), a0.f1.drop k = r → r.length < fuel → n + sizeB r < 9223372036854775807 → k + r.length < 9223372036854775807 → deadstore_Stores.l0 a0 fuel n k = some ((n + storesB r : Nat) : Int)
  | _, _, 0, _, _, h, _, _ => by omega
  | [], k, fuel + 1, n, h, _, _, _ => by
    have := drop_nil h
    unfold deadstore_Stores.l0
    rw [if_neg (by omega)]; simp [storesB]
  | x :: r, k, fuel + 1, n, h, hf, hn, hk => by
    obtain ⟨h1, h2, h3⟩ := drop_cons h
    simp only [List.length_cons] at hf hk
    simp only [sizeB, List.map_cons, List.sum_cons] at hn
    have hs := stores_le x.f0
    unfold deadstore_Stores.l0
    rw [if_pos (by omega), at_nat, h1]
    simp only [Option.bind_some]
    rw [show (0 : Int) = ((0 : Nat) : Int) from rfl, stores_l1 x x.f0 0 _ n (by simp) (by omega) (by omega) (by omega)]
    simp only [Option.bind_some]
    rw [wrap_succ (by omega), stores_l0 a0 r (k + 1) fuel _ h3 (by omega) (by simp only [sizeB]; omega) (by omega)]
    simp only [storesB, List.map_cons, List.sum_cons]; congr 2; omega
theorem stores_f {a0 : S36} (h : sizeB a0.f1 < 9223372036854775807) (h2 : a0.f1.length < 9223372036854775807) : deadstore_Stores.f a0 = some ((storesB a0.f1 : Nat) : Int) := by
  unfold deadstore_Stores.f
  rw [show (0 : Int) = ((0 : Nat) : Int) from rfl, stores_l0 a0 a0.f1 0 _ 0 (by simp) (by omega) (by omega) (by omega)]
  simp
end Go.Proofs.Ytmacdhkfgoahcaa.Sy
set_option linter.unusedVariables false
set_option linter.unusedSimpArgs false
set_option maxRecDepth 100000
set_option maxHeartbeats 4000000
namespace Go.Proofs.Ytmacdhkfgoahcaa.Sy
open Go Go.RowKit Go.Proofs.YtmacdhkfgoahcaaW.PrintWords Go.Proofs.Ytmacdhkfgoahcaa.Q
def swagelaw14_Few.l1 (a0 : S36) (x819 : Int) : Nat → Int → Option (Sum (Sum Bool (Int)) (Unit))
 | 0, _ => none
 | n2226 + 1, x2132 => jn (γ := (Sum (Sum Bool (Int)) (Unit))) (fun (x2335 : Bool) => (if x2335 = true then (at? a0.f1 x819).bind fun y2367 => (at? y2367.f0 x2132).bind fun y2380 => (if 20 < (y2380.f5.length : Int) then some (.inl (.inl false)) else swagelaw14_Few.l1 a0 x819 n2226 (IntKind.i64.wrap (x2132 + 1))) else some (.inr ()))) (fun (j2336 : (Bool → Option (Sum (Sum Bool (Int)) (Unit)))) => (at? a0.f1 x819).bind fun y2395 => (if x2132 < (y2395.f0.length : Int) then j2336 (decide (x2132 < 300)) else j2336 false))
def swagelaw14_Few.l0 (a0 : S36) : Nat → Int → Int → Option (Sum Bool (Int))
 | 0, _, _ => none
 | n1227 + 1, x818, x819 => jn (γ := (Sum Bool (Int))) (fun (x1642 : Bool) => (if x1642 = true then (at? a0.f1 x819).bind fun y1934 => (swagelaw14_Few.l1 a0 x819 ((at? a0.f1 x819).elim 0 (fun vy2227 => vy2227.f0.length) + 1) 0).bind fun | .inl q_ => some q_ | .inr _ => (swagelaw14_Few.l0 a0 n1227 (IntKind.i64.wrap (x818 + (y1934.f0.length : Int))) (IntKind.i64.wrap (x819 + 1))) else some (.inr x818))) (fun (j1643 : (Bool → Option (Sum Bool (Int)))) => (if x819 < (a0.f1.length : Int) then j1643 (decide (x819 < 100)) else j1643 false))
def swagelaw14_Few.f (a0 : S36) : Option Bool := (swagelaw14_Few.l0 a0 (a0.f1.length + 1) 0 0).bind fun | .inl q_ => some q_ | .inr x1225 => (if (a0.f1.length : Int) ≤ 40 then some (decide (x1225 ≤ 250)) else some false)
def swagelaw14_Few.post (G : Gd)  (r : Bool) (v : Value) (G' : Gd) (Lr : List Ch) : Prop := G = G' ∧ v = .bool r ∧ Lr = []
theorem swagelaw14_Few.calls {G : Gd} {r : Bool} {a0 : S36} {A1 : Option Addr} {c2 : Nat} (hr3 : Rd G k28 A1 a0.f1) (hl4 : a0.f1.length ≤ c2) (h : swagelaw14_Few.f a0 = some r) : Fn Try.prog 13 G [] [.agg #[.int .i64 a0.f0, .slice A1 a0.f1.length c2]] (swagelaw14_Few.post G  r) := by
 refine Fn.intro (e := [(0, .agg #[.int .i64 a0.f0, .slice A1 a0.f1.length c2])]) 61 Try.func13 rfl Try.ntmps13 rfl rfl (Nat.le_of_ble_eq_true rfl) (fun L => ?_)
 unfold swagelaw14_Few.f at h
 refine TC.seq ?_
 refine TC.region ?_
 refine TL.cons (TL.box (cs := [.int .i64 a0.f0, .slice A1 a0.f1.length c2]) rfl rfl rfl rfl (fun b5 => ?_))
 refine TL.cons (TO.val rfl rfl rfl (Val.assign rfl) ?_)
 refine TL.nil ?_
 refine TQ.then_ ?_
 refine TC.seq ?_
 refine TC.region ?_
 refine TL.cons (TO.val rfl rfl rfl (Val.assign rfl) ?_)
 refine TL.nil ?_
 refine TQ.then_ ?_
 refine TC.seq ?_
 refine TC.seq ?_
 refine TC.region ?_
 refine TL.cons (TO.val rfl rfl rfl (Val.assign rfl) ?_)
 refine TL.nil ?_
 refine TQ.then_ ?_
 obtain ⟨o1226, ho1226, ko1226⟩ := bind_no h
 clear h
 refine TC.tail (fun a W => ∃ (x1225 : Int), (.inr x1225) = o1226 ∧ Fr 61 a [(1, .pointer (some ⟨b5, 0, none⟩)), (3, .int .i64 x1225)] ∧ Own G (Blk b5 [.int .i64 a0.f0, .slice A1 a0.f1.length c2] 36 :: L) W) ?_ ?_
 ·
  rintro a W ⟨x1225, rfl, hF, hO⟩
  have h := ko1226
  clear ko1226 ho1226
  refine TQ.use ?_ hF hO
  clear hF hO
  refine TQ.then_ ?_
  refine TC.seq ?_
  refine TC.region ?_
  refine TL.cons (TO.val rfl rfl rfl (Val.fieldAddrB Try.underlying36 rfl fsz34 rfl rfl rfl) ?_)
  refine TL.cons (TO.val rfl rfl rfl (Val.loadB 0 agg34 rfl rfl rfl) ?_)
  refine TL.cons (TO.val rfl rfl rfl (Val.len Try.underlying34 rfl) ?_)
  refine TL.cons (TO.val rfl rfl rfl (Val.cmp rfl rfl run_leq) ?_)
  refine TL.cons (TO.val rfl rfl rfl (Val.move rfl) ?_)
  refine TK.split (p := (a0.f1.length : Int) ≤ 40) h (fun hg1636 h => ?_) (fun hg1636 h => ?_)
  ·
   have hk1637 : decide ((a0.f1.length : Int) ≤ 40) = true := decide_eq_true hg1636
   refine TL.cons (TO.val (Wt.yes rfl rfl rfl hk1637) rfl rfl (Val.move rfl) ?_)
   refine TL.cons (TO.val (Wt.yes rfl rfl rfl hk1637) rfl rfl (Val.cmp rfl rfl run_leq) ?_)
   refine TL.cons (TO.val rfl rfl rfl (Val.pickY rfl hk1637 rfl) ?_)
   refine TL.cons (TO.val rfl rfl rfl (Val.assign rfl) ?_)
   refine TL.nil ?_
   refine TQ.then_ ?_
   refine TC.ret ?_
   obtain rfl := Option.some.inj h
   exact TQ.fin (.inl rfl) rfl Try.results13 (.tmp rfl .nil) rfl (FRel.mk (Ls := []) [] 1 (Gd.le.refl _) rfl rfl rfl ⟨rfl, rfl, rfl⟩)
  ·
   have hk1638 : decide ((a0.f1.length : Int) ≤ 40) = false := decide_eq_false hg1636
   refine TL.cons (TL.not (Wt.no rfl rfl rfl hk1638) rfl ?_)
   refine TL.cons (TL.not (Wt.no rfl rfl rfl hk1638) rfl ?_)
   refine TL.cons (TO.val rfl rfl rfl (Val.pickN rfl hk1638 rfl) ?_)
   refine TL.cons (TO.val rfl rfl rfl (Val.assign rfl) ?_)
   refine TL.nil ?_
   refine TQ.then_ ?_
   refine TC.ret ?_
   obtain rfl := Option.some.inj h
   exact TQ.fin (.inl rfl) rfl Try.results13 (.tmp rfl .nil) rfl (FRel.mk (Ls := []) [] 1 (Gd.le.refl _) rfl rfl rfl ⟨rfl, rfl, rfl⟩)
 ·
  refine TC.block ?_
  intro a W hF hO
  have hS : ∃ (x818 : Int) (x819 : Int), swagelaw14_Few.l0 a0 (a0.f1.length + 1) x818 x819 = some o1226 ∧ Fr 61 a [(1, .pointer (some ⟨b5, 0, none⟩)), (3, .int .i64 x818), (4, .int .i64 x819)] ∧ Own G (Blk b5 [.int .i64 a0.f0, .slice A1 a0.f1.length c2] 36 :: L) W := by
   exact ⟨0, 0, ho1226, hF.sub ⟨rfl, rfl, rfl, trivial⟩, hO.selT (Ls := [Blk b5 [.int .i64 a0.f0, .slice A1 a0.f1.length c2] 36]) [0] 1 rfl rfl rfl⟩
  clear hF hO ho1226
  refine TC.loop (fun n1227 a W => ∃ (x818 : Int) (x819 : Int), swagelaw14_Few.l0 a0 n1227 x818 x819 = some o1226 ∧ Fr 61 a [(1, .pointer (some ⟨b5, 0, none⟩)), (3, .int .i64 x818), (4, .int .i64 x819)] ∧ Own G (Blk b5 [.int .i64 a0.f0, .slice A1 a0.f1.length c2] 36 :: L) W) ?_ ?_ hS
  ·
   rintro a W ⟨x818, x819, h, hF, hO⟩
   exact none_no h
  ·
   clear hS
   rintro n1227 a W ⟨x818, x819, h, hF, hO⟩
   rw [swagelaw14_Few.l0] at h
   refine TC.use ?_ hF hO
   clear hF hO
   refine TC.seq ?_
   refine TC.seq ?_
   obtain ⟨j1643, hj1643, h⟩ := jn_no h
   refine TC.tail (fun a W => ∃ (x1642 : Bool), j1643 x1642 = some o1226 ∧ Fr 61 a [(1, .pointer (some ⟨b5, 0, none⟩)), (3, .int .i64 x818), (4, .int .i64 x819), (14, .bool x1642)] ∧ Own G (Blk b5 [.int .i64 a0.f0, .slice A1 a0.f1.length c2] 36 :: L) W) ?_ ?_
   ·
    rintro a W ⟨x1642, h, hF, hO⟩
    rw [hj1643] at h
    refine TQ.use ?_ hF hO
    clear hF hO
    refine TQ.then_ ?_
    refine TC.cond_b rfl h (fun hc1645 h => ?_) (fun hc1645 h => ?_)
    ·
     refine TC.skip ?_
     refine TQ.then_ ?_
     refine TC.seq ?_
     refine TC.block ?_
     refine TC.seq ?_
     refine TC.region ?_
     refine TL.cons (TO.val rfl rfl rfl (Val.move rfl) ?_)
     refine TL.cons (TO.val rfl rfl rfl (Val.fieldAddrB Try.underlying36 rfl fsz34 rfl rfl rfl) ?_)
     refine TL.cons (TO.val rfl rfl rfl (Val.loadB 0 agg34 rfl rfl rfl) ?_)
     refine TL.cons (TO.val rfl rfl rfl (Val.move rfl) ?_)
     obtain ⟨y1934, hx1935, h⟩ := bind_no h
     obtain ⟨ad1936, cs1942, hA1937, hi1938, hj1939, hcl1940, hK1941⟩ := Rd.at hr3 hx1935
     obtain ⟨A1943, c1944, rfl, hr1945, hl1946⟩ := k28_openR hK1941
     refine TL.cons (TO.val rfl rfl rfl (Val.indexAddr Try.underlying34 fsz28 rfl hA1937 rfl hi1938 hj1939) ?_)
     refine TL.cons (TO.val rfl rfl rfl (Val.fieldAddrE Try.underlying28 rfl fsz26 rfl rfl) ?_)
     refine TL.cons (TO.val rfl rfl rfl (Val.loadS agg26 rfl (hcl1940 0 _ rfl)) ?_)
     refine TL.cons (TO.val rfl rfl rfl (Val.len Try.underlying26 rfl) ?_)
     refine TL.cons (TO.val rfl rfl rfl (Val.cmp rfl rfl run_add) ?_)
     refine TL.cons (TO.val rfl rfl rfl (Val.assign rfl) ?_)
     refine TL.nil ?_
     refine TQ.then_ ?_
     refine TC.seq ?_
     refine TC.region ?_
     refine TL.cons (TO.val rfl rfl rfl (Val.assign rfl) ?_)
     refine TL.nil ?_
     refine TQ.then_ ?_
     obtain ⟨o2225, ho2225, ko2225⟩ := bind_no h
     clear h
     refine TC.tail (fun a W => (.inr ()) = o2225 ∧ Fr 61 a [(1, .pointer (some ⟨b5, 0, none⟩)), (3, .int .i64 (IntKind.i64.wrap (x818 + (y1934.f0.length : Int)))), (4, .int .i64 x819)] ∧ Own G (Blk b5 [.int .i64 a0.f0, .slice A1 a0.f1.length c2] 36 :: L) W) ?_ ?_
     ·
      rintro a W ⟨rfl, hF, hO⟩
      have h := ko2225
      clear ko2225 ho2225
      refine TQ.use ?_ hF hO
      clear hF hO
      refine TQ.inB ?_
      refine TQ.then_ ?_
      refine TC.region ?_
      refine TL.cons (TO.val rfl rfl rfl (Val.move rfl) ?_)
      refine TL.cons (TO.val rfl rfl rfl (Val.cmp rfl rfl run_add) ?_)
      refine TL.cons (TO.val rfl rfl rfl (Val.assign rfl) ?_)
      refine TL.nil ?_
      exact fun a W hF hO => ⟨IntKind.i64.wrap (x818 + (y1934.f0.length : Int)), IntKind.i64.wrap (x819 + 1), h, hF.sub ⟨rfl, rfl, rfl, trivial⟩, hO.selT (Ls := [Blk b5 [.int .i64 a0.f0, .slice A1 a0.f1.length c2] 36]) [0] 1 rfl rfl rfl⟩
     ·
      refine TC.block ?_
      intro a W hF hO
      have hS : ∃ (x2132 : Int), swagelaw14_Few.l1 a0 x819 ((at? a0.f1 x819).elim 0 (fun vy2227 => vy2227.f0.length) + 1) x2132 = some o2225 ∧ Fr 61 a [(1, .pointer (some ⟨b5, 0, none⟩)), (3, .int .i64 (IntKind.i64.wrap (x818 + (y1934.f0.length : Int)))), (4, .int .i64 x819), (5, .int .i64 x2132)] ∧ Own G (Blk b5 [.int .i64 a0.f0, .slice A1 a0.f1.length c2] 36 :: L) W := by
       exact ⟨0, ho2225, hF.sub ⟨rfl, rfl, rfl, rfl, trivial⟩, hO.selT (Ls := [Blk b5 [.int .i64 a0.f0, .slice A1 a0.f1.length c2] 36]) [0] 1 rfl rfl rfl⟩
      clear hF hO ho2225
      refine TC.loop (fun n2226 a W => ∃ (x2132 : Int), swagelaw14_Few.l1 a0 x819 n2226 x2132 = some o2225 ∧ Fr 61 a [(1, .pointer (some ⟨b5, 0, none⟩)), (3, .int .i64 (IntKind.i64.wrap (x818 + (y1934.f0.length : Int)))), (4, .int .i64 x819), (5, .int .i64 x2132)] ∧ Own G (Blk b5 [.int .i64 a0.f0, .slice A1 a0.f1.length c2] 36 :: L) W) ?_ ?_ hS
      ·
       rintro a W ⟨x2132, h, hF, hO⟩
       exact none_no h
      ·
       clear hS
       rintro n2226 a W ⟨x2132, h, hF, hO⟩
       rw [swagelaw14_Few.l1] at h
       refine TC.use ?_ hF hO
       clear hF hO
       refine TC.seq ?_
       refine TC.seq ?_
       obtain ⟨j2336, hj2336, h⟩ := jn_no h
       refine TC.tail (fun a W => ∃ (x2335 : Bool), j2336 x2335 = some o2225 ∧ Fr 61 a [(1, .pointer (some ⟨b5, 0, none⟩)), (3, .int .i64 (IntKind.i64.wrap (x818 + (y1934.f0.length : Int)))), (4, .int .i64 x819), (5, .int .i64 x2132), (38, .bool x2335)] ∧ Own G (Blk b5 [.int .i64 a0.f0, .slice A1 a0.f1.length c2] 36 :: L) W) ?_ ?_
       ·
        rintro a W ⟨x2335, h, hF, hO⟩
        rw [hj2336] at h
        refine TQ.use ?_ hF hO
        clear hF hO
        refine TQ.then_ ?_
        refine TC.cond_b rfl h (fun hc2338 h => ?_) (fun hc2338 h => ?_)
        ·
         refine TC.skip ?_
         refine TQ.then_ ?_
         refine TC.seq ?_
         refine TC.block ?_
         refine TC.seq ?_
         refine TC.region ?_
         refine TL.cons (TO.val rfl rfl rfl (Val.fieldAddrB Try.underlying36 rfl fsz34 rfl rfl rfl) ?_)
         refine TL.cons (TO.val rfl rfl rfl (Val.loadB 0 agg34 rfl rfl rfl) ?_)
         refine TL.cons (TO.val rfl rfl rfl (Val.move rfl) ?_)
         obtain ⟨y2367, hx2368, h⟩ := bind_no h
         obtain ⟨ad2369, cs2375, hA2370, hi2371, hj2372, hcl2373, hK2374⟩ := Rd.at hr3 hx2368
         obtain ⟨A2376, c2377, rfl, hr2378, hl2379⟩ := k28_openR hK2374
         refine TL.cons (TO.val rfl rfl rfl (Val.indexAddr Try.underlying34 fsz28 rfl hA2370 rfl hi2371 hj2372) ?_)
         refine TL.cons (TO.val rfl rfl rfl (Val.fieldAddrE Try.underlying28 rfl fsz26 rfl rfl) ?_)
         refine TL.cons (TO.val rfl rfl rfl (Val.loadS agg26 rfl (hcl2373 0 _ rfl)) ?_)
         refine TL.cons (TO.val rfl rfl rfl (Val.move rfl) ?_)
         obtain ⟨y2380, hx2381, h⟩ := bind_no h
         obtain ⟨ad2382, cs2388, hA2383, hi2384, hj2385, hcl2386, hK2387⟩ := Rd.at hr2378 hx2381
         obtain ⟨A2389, c2390, rfl, hr2391, hl2392⟩ := k30_openR hK2387
         refine TL.cons (TO.val rfl rfl rfl (Val.indexAddr Try.underlying26 fsz30 rfl hA2383 rfl hi2384 hj2385) ?_)
         refine TL.cons (TO.val rfl rfl rfl (Val.fieldAddrE Try.underlying30 rfl fsz22 rfl rfl) ?_)
         refine TL.cons (TO.val rfl rfl rfl (Val.loadS agg22 rfl (hcl2386 5 _ rfl)) ?_)
         refine TL.cons (TO.val rfl rfl rfl (Val.len Try.underlying22 rfl) ?_)
         refine TL.cons (TO.val rfl rfl rfl (Val.cmp rfl rfl run_gtr) ?_)
         refine TL.nil ?_
         refine TQ.then_ ?_
         refine TC.cond_p rfl h (fun hc2394 h => ?_) (fun hc2394 h => ?_)
         ·
          refine TC.seq ?_
          refine TC.region ?_
          refine TL.cons (TO.val rfl rfl rfl (Val.assign rfl) ?_)
          refine TL.nil ?_
          refine TQ.then_ ?_
          refine TC.ret ?_
          refine TQ.inBR ?_
          refine TQ.thenR ?_
          refine TQ.thenR ?_
          refine TQ.inBR ?_
          refine TQ.thenR ?_
          refine TQ.inBR ?_
          refine TQ.thenR ?_
          refine TQ.thenR ?_
          refine TQ.inBR ?_
          refine TQ.thenR ?_
          refine TQ.thenR ?_
          obtain rfl := Option.some.inj h
          have h := ko2225
          obtain rfl := Option.some.inj h
          have h := ko1226
          obtain rfl := Option.some.inj h
          exact TQ.fin (.inl rfl) rfl Try.results13 (.tmp rfl .nil) rfl (FRel.mk (Ls := []) [] 1 (Gd.le.refl _) rfl rfl rfl ⟨rfl, rfl, rfl⟩)
         ·
          refine TC.skip ?_
          refine TQ.inB ?_
          refine TQ.then_ ?_
          refine TC.region ?_
          refine TL.cons (TO.val rfl rfl rfl (Val.move rfl) ?_)
          refine TL.cons (TO.val rfl rfl rfl (Val.cmp rfl rfl run_add) ?_)
          refine TL.cons (TO.val rfl rfl rfl (Val.assign rfl) ?_)
          refine TL.nil ?_
          exact fun a W hF hO => ⟨IntKind.i64.wrap (x2132 + 1), h, hF.sub ⟨rfl, rfl, rfl, rfl, trivial⟩, hO.selT (Ls := [Blk b5 [.int .i64 a0.f0, .slice A1 a0.f1.length c2] 36]) [0] 1 rfl rfl rfl⟩
        ·
         refine TC.exit ?_
         refine TQ.thenX ?_
         refine TQ.thenX ?_
         refine TQ.inBX ?_
         exact fun a W hF hO => ⟨Option.some.inj h, hF.sub ⟨rfl, rfl, rfl, trivial⟩, hO.selT (Ls := [Blk b5 [.int .i64 a0.f0, .slice A1 a0.f1.length c2] 36]) [0] 1 rfl rfl rfl⟩
       ·
        refine TC.region ?_
        refine TL.cons (TO.val rfl rfl rfl (Val.move rfl) ?_)
        refine TL.cons (TO.val rfl rfl rfl (Val.fieldAddrB Try.underlying36 rfl fsz34 rfl rfl rfl) ?_)
        refine TL.cons (TO.val rfl rfl rfl (Val.loadB 0 agg34 rfl rfl rfl) ?_)
        refine TL.cons (TO.val rfl rfl rfl (Val.move rfl) ?_)
        obtain ⟨y2395, hx2396, h⟩ := bind_no h
        obtain ⟨ad2397, cs2403, hA2398, hi2399, hj2400, hcl2401, hK2402⟩ := Rd.at hr3 hx2396
        obtain ⟨A2404, c2405, rfl, hr2406, hl2407⟩ := k28_openR hK2402
        refine TL.cons (TO.val rfl rfl rfl (Val.indexAddr Try.underlying34 fsz28 rfl hA2398 rfl hi2399 hj2400) ?_)
        refine TL.cons (TO.val rfl rfl rfl (Val.fieldAddrE Try.underlying28 rfl fsz26 rfl rfl) ?_)
        refine TL.cons (TO.val rfl rfl rfl (Val.loadS agg26 rfl (hcl2401 0 _ rfl)) ?_)
        refine TL.cons (TO.val rfl rfl rfl (Val.len Try.underlying26 rfl) ?_)
        refine TL.cons (TO.val rfl rfl rfl (Val.cmp rfl rfl run_lss) ?_)
        refine TL.cons (TO.val rfl rfl rfl (Val.move rfl) ?_)
        refine TK.split (p := x2132 < (y2395.f0.length : Int)) h (fun hg2408 h => ?_) (fun hg2408 h => ?_)
        ·
         have hk2409 : decide (x2132 < (y2395.f0.length : Int)) = true := decide_eq_true hg2408
         refine TL.cons (TO.val (Wt.yes rfl rfl rfl hk2409) rfl rfl (Val.move rfl) ?_)
         refine TL.cons (TO.val (Wt.yes rfl rfl rfl hk2409) rfl rfl (Val.cmp rfl rfl run_lss) ?_)
         refine TL.cons (TO.val rfl rfl rfl (Val.pickY rfl hk2409 rfl) ?_)
         refine TL.nil ?_
         exact fun a W hF hO => ⟨decide (x2132 < 300), h, hF.sub ⟨rfl, rfl, rfl, rfl, rfl, trivial⟩, hO.selT (Ls := [Blk b5 [.int .i64 a0.f0, .slice A1 a0.f1.length c2] 36]) [0] 1 rfl rfl rfl⟩
        ·
         have hk2410 : decide (x2132 < (y2395.f0.length : Int)) = false := decide_eq_false hg2408
         refine TL.cons (TL.not (Wt.no rfl rfl rfl hk2410) rfl ?_)
         refine TL.cons (TL.not (Wt.no rfl rfl rfl hk2410) rfl ?_)
         refine TL.cons (TO.val rfl rfl rfl (Val.pickN rfl hk2410 rfl) ?_)
         refine TL.nil ?_
         exact fun a W hF hO => ⟨false, h, hF.sub ⟨rfl, rfl, rfl, rfl, rfl, trivial⟩, hO.selT (Ls := [Blk b5 [.int .i64 a0.f0, .slice A1 a0.f1.length c2] 36]) [0] 1 rfl rfl rfl⟩
    ·
     refine TC.exit ?_
     refine TQ.thenX ?_
     refine TQ.thenX ?_
     refine TQ.inBX ?_
     exact fun a W hF hO => ⟨x818, Option.some.inj h, hF.sub ⟨rfl, rfl, trivial⟩, hO.selT (Ls := [Blk b5 [.int .i64 a0.f0, .slice A1 a0.f1.length c2] 36]) [0] 1 rfl rfl rfl⟩
   ·
    refine TC.region ?_
    refine TL.cons (TO.val rfl rfl rfl (Val.move rfl) ?_)
    refine TL.cons (TO.val rfl rfl rfl (Val.fieldAddrB Try.underlying36 rfl fsz34 rfl rfl rfl) ?_)
    refine TL.cons (TO.val rfl rfl rfl (Val.loadB 0 agg34 rfl rfl rfl) ?_)
    refine TL.cons (TO.val rfl rfl rfl (Val.len Try.underlying34 rfl) ?_)
    refine TL.cons (TO.val rfl rfl rfl (Val.cmp rfl rfl run_lss) ?_)
    refine TL.cons (TO.val rfl rfl rfl (Val.move rfl) ?_)
    refine TK.split (p := x819 < (a0.f1.length : Int)) h (fun hg2411 h => ?_) (fun hg2411 h => ?_)
    ·
     have hk2412 : decide (x819 < (a0.f1.length : Int)) = true := decide_eq_true hg2411
     refine TL.cons (TO.val (Wt.yes rfl rfl rfl hk2412) rfl rfl (Val.move rfl) ?_)
     refine TL.cons (TO.val (Wt.yes rfl rfl rfl hk2412) rfl rfl (Val.cmp rfl rfl run_lss) ?_)
     refine TL.cons (TO.val rfl rfl rfl (Val.pickY rfl hk2412 rfl) ?_)
     refine TL.nil ?_
     exact fun a W hF hO => ⟨decide (x819 < 100), h, hF.sub ⟨rfl, rfl, rfl, rfl, trivial⟩, hO.selT (Ls := [Blk b5 [.int .i64 a0.f0, .slice A1 a0.f1.length c2] 36]) [0] 1 rfl rfl rfl⟩
    ·
     have hk2413 : decide (x819 < (a0.f1.length : Int)) = false := decide_eq_false hg2411
     refine TL.cons (TL.not (Wt.no rfl rfl rfl hk2413) rfl ?_)
     refine TL.cons (TL.not (Wt.no rfl rfl rfl hk2413) rfl ?_)
     refine TL.cons (TO.val rfl rfl rfl (Val.pickN rfl hk2413 rfl) ?_)
     refine TL.nil ?_
     exact fun a W hF hO => ⟨false, h, hF.sub ⟨rfl, rfl, rfl, rfl, trivial⟩, hO.selT (Ls := [Blk b5 [.int .i64 a0.f0, .slice A1 a0.f1.length c2] 36]) [0] 1 rfl rfl rfl⟩
end Go.Proofs.Ytmacdhkfgoahcaa.Sy
set_option linter.unusedVariables false
set_option linter.unusedSimpArgs false
namespace Go.Proofs.Ytmacdhkfgoahcaa.Sy
open Go Go.RowKit Go.Proofs.YtmacdhkfgoahcaaW.PrintWords Go.Proofs.Ytmacdhkfgoahcaa.Q Go.Proofs.Ytmacdhkfgoahcaa.Fo Go.Proofs.Ytmacdhkfgoahcaa.De
abbrev In25 (t : S25) : Prop := (Lit.int .i64 t.f0).wf = true ∧ (Lit.int .i64 t.f1).wf = true ∧ (Lit.int .i64 t.f2).wf = true ∧ (Lit.int .i64 t.f3).wf = true
abbrev In30 (x : S30) : Prop := (Lit.int .i64 x.f0).wf = true ∧ (Lit.int .i64 x.f1).wf = true ∧ (Lit.int .i64 x.f2).wf = true ∧ (Lit.int .i64 x.f3).wf = true ∧ (Lit.int .i64 x.f4).wf = true ∧ (x.f5.length * 8 ≤ 140737488351232 ∧ ∀ r ∈ x.f5, (Lit.int .i64 r).wf = true)
abbrev In28 (b : S28) : Prop := (b.f0.length * 64 ≤ 140737488351232 ∧ ∀ x ∈ b.f0, In30 x) ∧ In25 b.f1
abbrev In36 (f : S36) : Prop := (Lit.int .i64 f.f0).wf = true ∧ (f.f1.length * 56 ≤ 140737488351232 ∧ ∀ b ∈ f.f1, In28 b)
theorem In28.fit {b : S28} (h : In28 b) (hl : b.f0.length ≤ 250) : Fit b.f0 := ⟨fun x hx => by
  obtain ⟨_, h1, h2, h3, h4, h5, h6⟩ := h.1.2 x hx
  exact ⟨h1, h2, h3, h4, h6⟩, by omega, fun x hx => by
  obtain ⟨_, h1, h2, h3, h4, h5, h6⟩ := h.1.2 x hx
  omega⟩
def okArgs (l : List S30) : Bool := l.all fun x => decide (x.f5.length ≤ 20)
theorem few_l1 (a0 : S36) (i : Nat) (b : S28) (hb : a0.f1[i]? = some b) (hl : b.f0.length < 4611686018427387904) : ∀ (r : List S30) (k fuel : Nat), b.f0.drop k = r → r.length < fuel → k ≤ 300 → swagelaw14_Few.l1 a0 i fuel k = some (if okArgs (r.take (300 - k)) = true then .inr () else .inl (.inl false))
  | _, _, 0, _, h, _ => by omega
  | [], k, fuel + 1, h, _, _ => by
    have := drop_nil h
    unfold swagelaw14_Few.l1
    simp only [jn]
    rw [at_nat, hb]
    simp only [Option.bind_some]
    rw [if_neg (by omega)]
    simp [okArgs]
  | x :: r, k, fuel + 1, h, hf, hk => by
    obtain ⟨h1, h2, h3⟩ := drop_cons h
    simp only [List.length_cons] at hf
    unfold swagelaw14_Few.l1
    simp only [jn]
    rw [at_nat, hb]
    simp only [Option.bind_some]
    rw [if_pos (by omega)]
    by_cases h300 : k < 300
    · rw [if_pos (by simp; omega), at_nat, h1]
      simp only [Option.bind_some]
      obtain ⟨m, hm⟩ : ∃ m, 300 - k = m + 1 := ⟨299 - k, by omega⟩
      have hm' : 300 - (k + 1) = m := by omega
      rw [hm, List.take_succ_cons]
      by_cases h20 : x.f5.length ≤ 20
      · rw [if_neg (by omega), wrap_succ (by omega), few_l1 a0 i b hb hl r (k + 1) fuel h3 (by omega) (by omega), hm']
        simp [okArgs, h20]
      · rw [if_pos (by omega)]
        simp [okArgs, h20]
    · rw [if_neg (by simp; omega), show 300 - k = 0 by omega]
      simp [okArgs]
def okBlocks (l : List S28) : Bool := l.all fun b => okArgs (b.f0.take 300)
theorem few_l0 (a0 : S36) (hs : ∀ b ∈ a0.f1, b.f0.length * 64 ≤ 140737488351232) : ∀ (r : List S28) (k fuel n : Nat), a0.f1.drop k = r → r.length < fuel → k ≤ 100 → n ≤ k * 2199023255552 → swagelaw14_Few.l0 a0 fuel n k = some (if okBlocks (r.take (100 - k)) = true then .inr (((n + sizeB (r.take (100 - k)) : Nat) : Int)) else .inl false)
  | _, _, 0, _, _, h, _, _ => by omega
  | [], k, fuel + 1, n, h, _, _, _ => by
    have := drop_nil h
    unfold swagelaw14_Few.l0
    simp only [jn]
    rw [if_neg (by omega)]
    simp [okBlocks, sizeB]
  | b :: r, k, fuel + 1, n, h, hf, hk, hn => by
    obtain ⟨h1, h2, h3⟩ := drop_cons h
    simp only [List.length_cons] at hf
    have hbl := hs b (List.mem_of_getElem? h1)
    unfold swagelaw14_Few.l0
    simp only [jn]
    rw [if_pos (by omega)]
    by_cases h100 : k < 100
    · rw [if_pos (by simp; omega), at_nat, h1]
      simp only [Option.bind_some, Option.elim_some]
      have q := few_l1 a0 k b h1 (by omega) b.f0 0 (b.f0.length + 1) (by simp) (by omega) (by omega)
      have q' : swagelaw14_Few.l1 a0 (k : Int) (b.f0.length + 1) 0 = _ := q
      rw [q']
      obtain ⟨m, hm⟩ : ∃ m, 100 - k = m + 1 := ⟨99 - k, by omega⟩
      have hm' : 100 - (k + 1) = m := by omega
      rw [hm, List.take_succ_cons]
      by_cases hok : okArgs (b.f0.take (300 - 0)) = true
      · rw [if_pos hok]
        simp only [Option.bind_some]
        rw [wrap_succ (by omega), wrap_small (n := (n : Int) + (b.f0.length : Int)) (by omega) (by omega), show (n : Int) + (b.f0.length : Int) = ((n + b.f0.length : Nat) : Int) by omega, few_l0 a0 hs r (k + 1) fuel _ h3 (by omega) (by omega) (by omega), hm']
        have hok' : okArgs (b.f0.take 300) = true := hok
        have e1 : okBlocks (b :: r.take m) = okBlocks (r.take m) := by simp [okBlocks, hok']
        have e2 : sizeB (b :: r.take m) = b.f0.length + sizeB (r.take m) := by simp [sizeB]
        rw [e1, e2, Nat.add_assoc]
      · rw [if_neg hok]
        simp only [Option.bind_some]
        have hok' : okArgs (b.f0.take 300) = false := by simpa using hok
        have e1 : okBlocks (b :: r.take m) = false := by simp [okBlocks, hok']
        rw [e1]; rfl
    · rw [if_neg (by simp; omega), show 100 - k = 0 by omega]
      simp [okBlocks, sizeB]
theorem sizeB_mem {l : List S28} {b : S28} (h : b ∈ l) : b.f0.length ≤ sizeB l := by
  induction l with
  | nil => cases h
  | cons x r ih =>
    simp only [sizeB, List.map_cons, List.sum_cons]
    rcases List.mem_cons.1 h with rfl | h
    · omega
    · have := ih h; simp only [sizeB] at this; omega
theorem few_f {a0 : S36} (h : In36 a0) : ∃ b, swagelaw14_Few.f a0 = some b ∧ (b = true → a0.f1.length ≤ 40 ∧ sizeB a0.f1 ≤ 250 ∧ ∀ x ∈ a0.f1, x.f0.length ≤ 250 ∧ Fit x.f0) := by
  have q := few_l0 a0 (fun b hb => (h.2.2 b hb).1.1) a0.f1 0 (a0.f1.length + 1) 0 (by simp) (by omega) (by omega) (by omega)
  have q' : swagelaw14_Few.l0 a0 (a0.f1.length + 1) 0 0 = _ := q
  unfold swagelaw14_Few.f
  rw [q']
  split
  · simp only [Option.bind_some, Nat.zero_add, Nat.sub_zero]
    by_cases h40 : (a0.f1.length : Int) ≤ 40
    · rw [if_pos h40]
      refine ⟨_, rfl, fun hb => ?_⟩
      have hb := of_decide_eq_true hb
      rw [List.take_of_length_le (by omega)] at hb
      have hs : sizeB a0.f1 ≤ 250 := by omega
      refine ⟨by omega, hs, fun x hx => ?_⟩
      have := sizeB_mem hx
      exact ⟨by omega, In28.fit (h.2.2 x hx) (by omega)⟩
    · rw [if_neg h40]; exact ⟨_, rfl, fun hb => by cases hb⟩
  · exact ⟨_, rfl, fun hb => by cases hb⟩
end Go.Proofs.Ytmacdhkfgoahcaa.Sy
set_option linter.unusedVariables false
set_option linter.unusedSimpArgs false
set_option maxRecDepth 100000
set_option maxHeartbeats 4000000
namespace Go.Proofs.Ytmacdhkfgoahcaa.Sy
open Go Go.RowKit Go.Proofs.YtmacdhkfgoahcaaW.PrintWords Go.Proofs.Ytmacdhkfgoahcaa.Q
def swageref14_Copy.l1 (a0 : S36) (x816 : Int) : Nat → Int → (List S30) → Option ((List S30))
 | 0, _, _ => none
 | n2236 + 1, x2165, l2166 => (at? a0.f1 x816).bind fun y2302 => (if x2165 < (y2302.f0.length : Int) then (at? y2302.f0 x2165).bind fun y2340 => (if ([] : List Int).length + y2340.f5.length ≤ 17592186044416 then (if l2166.length < 2199023255552 then swageref14_Copy.l1 a0 x816 n2236 (IntKind.i64.wrap (x2165 + 1)) (l2166 ++ [(⟨y2340.f0, y2340.f1, y2340.f2, y2340.f3, y2340.f4, (([] : List Int) ++ y2340.f5)⟩ : S30)]) else none) else none) else some l2166)
def swageref14_Copy.l0 (a0 : S36) : Nat → Int → (List S28) → Option ((List S28))
 | 0, _, _ => none
 | n1264 + 1, x816, l817 => (if x816 < (a0.f1.length : Int) then (at? a0.f1 x816).bind fun y1972 => (swageref14_Copy.l1 a0 x816 ((at? a0.f1 x816).elim 0 (fun vy2237 => vy2237.f0.length) + 1) 0 []).bind fun (l2231 : (List S30)) => (if l817.length < 2513169434916 then swageref14_Copy.l0 a0 n1264 (IntKind.i64.wrap (x816 + 1)) (l817 ++ [(⟨l2231, y1972.f1⟩ : S28)]) else none) else some l817)
def swageref14_Copy.f (a0 : S36) : Option S36 := (swageref14_Copy.l0 a0 (a0.f1.length + 1) 0 []).bind fun (l1259 : (List S28)) => some (⟨a0.f0, l1259⟩ : S36)
def swageref14_Copy.post (G : Gd)  (r : S36) (v : Value) (G' : Gd) (Lr : List Ch) : Prop := G = G' ∧ ∃ (A_1 : Option Addr) (c_1 : Nat), v = .agg #[.int .i64 r.f0, .slice A_1 r.f1.length c_1] ∧ Lr = [Row k28 28 (.slice A_1 r.f1.length c_1) r.f1]
theorem swageref14_Copy.calls {G : Gd} {r : S36} {a0 : S36} {A1 : Option Addr} {c2 : Nat} (hr3 : Rd G k28 A1 a0.f1) (hl4 : a0.f1.length ≤ c2) (h : swageref14_Copy.f a0 = some r) : Fn Try.prog 14 G [] [.agg #[.int .i64 a0.f0, .slice A1 a0.f1.length c2]] (swageref14_Copy.post G  r) := by
 refine Fn.intro (e := [(0, .agg #[.int .i64 a0.f0, .slice A1 a0.f1.length c2])]) 63 Try.func14 rfl Try.ntmps14 rfl rfl (Nat.le_of_ble_eq_true rfl) (fun L => ?_)
 unfold swageref14_Copy.f at h
 refine TC.seq ?_
 refine TC.region ?_
 refine TL.cons (TL.box (cs := [.int .i64 a0.f0, .slice A1 a0.f1.length c2]) rfl rfl rfl rfl (fun b5 => ?_))
 refine TL.cons (TL.alloc (cs := [.int .i64 0, .slice none 0 0]) rfl rfl zr36 rfl (fun b6 => ?_))
 refine TL.nil ?_
 refine TQ.then_ ?_
 refine TC.seq ?_
 refine TC.region ?_
 refine TL.cons (TO.val rfl rfl rfl (Val.fieldAddrB Try.underlying36 rfl fsz3 rfl rfl rfl) ?_)
 refine TL.cons (TO.val rfl rfl rfl (Val.loadB 1 agg3 rfl rfl rfl) ?_)
 refine TL.cons (TO.val rfl rfl rfl (Val.build (cs := [.int .i64 a0.f0, .slice none 0 0]) (is := [0]) (xs := [.tmp 9]) Try.underlying36 zr36 bld36 rfl rfl rfl rfl) ?_)
 refine TL.cons (TL.alloc (cs := [.int .i64 0, .slice none 0 0]) rfl rfl zr36 rfl (fun b7 => ?_))
 refine TL.cons (TL.store 0 (ds := [.int .i64 a0.f0, .slice none 0 0]) (cs' := [.int .i64 a0.f0, .slice none 0 0]) (L' := (Blk b7 [.int .i64 a0.f0, .slice none 0 0] 36 :: Blk b6 [.int .i64 0, .slice none 0 0] 36 :: Blk b5 [.int .i64 a0.f0, .slice A1 a0.f1.length c2] 36 :: L)) rfl fsz36 rfl rfl rfl rfl rfl (Nat.le_of_ble_eq_true rfl) rfl rfl ?_)
 refine TL.nil ?_
 refine TQ.then_ ?_
 refine TC.seq ?_
 refine TC.seq ?_
 refine TC.region ?_
 refine TL.cons (TO.val rfl rfl rfl (Val.assign rfl) ?_)
 refine TL.nil ?_
 refine TQ.then_ ?_
 obtain ⟨o1263, ho1263, ko1263⟩ := bind_no h
 clear h
 refine TC.tail (fun a W => ∃ (l1259 : (List S28)) (A1260 : Option Addr) (c1261 : Nat), l1259 = o1263 ∧ Fr 63 a [(2, .pointer (some ⟨b6, 0, none⟩)), (3, .pointer (some ⟨b7, 0, none⟩))] ∧ Own G (Blk b6 [.int .i64 0, .slice none 0 0] 36 :: Blk b7 [.int .i64 a0.f0, .slice A1260 l1259.length c1261] 36 :: Row k28 28 (.slice A1260 l1259.length c1261) l1259 :: L) W) ?_ ?_
 ·
  rintro a W ⟨l1259, A1260, c1261, rfl, hF, hO⟩
  have h := ko1263
  clear ko1263 ho1263
  refine TQ.use ?_ hF hO
  clear hF hO
  refine TQ.then_ ?_
  refine TC.seq ?_
  refine TC.region ?_
  refine TL.cons (TO.val rfl rfl rfl (Val.loadsB 1 (cs := [.int .i64 a0.f0, .slice A1260 l1259.length c1261]) agg36 fsz36 rfl rfl rfl rfl) ?_)
  refine TL.cons (TL.store 0 (ds := [.int .i64 a0.f0, .slice A1260 l1259.length c1261]) (cs' := [.int .i64 a0.f0, .slice A1260 l1259.length c1261]) (L' := (Blk b6 [.int .i64 a0.f0, .slice A1260 l1259.length c1261] 36 :: Blk b7 [.int .i64 a0.f0, .slice A1260 l1259.length c1261] 36 :: Row k28 28 (.slice A1260 l1259.length c1261) l1259 :: L)) rfl fsz36 rfl rfl rfl rfl rfl (Nat.le_of_ble_eq_true rfl) rfl rfl ?_)
  refine TL.nil ?_
  refine TQ.then_ ?_
  refine TC.ret ?_
  obtain rfl := Option.some.inj h
  exact TQ.fin (.inl rfl) rfl Try.results14 (.cells 0 rfl rfl agg36 fsz36 .nil) rfl (FRel.mk (Ls := [Row k28 28 (.slice A1260 l1259.length c1261) l1259]) [2] 3 (Gd.le.refl _) rfl rfl rfl ⟨rfl, A1260, c1261, rfl, rfl⟩)
 ·
  refine TC.block ?_
  intro a W hF hO
  have hS : ∃ (x816 : Int) (l817 : (List S28)) (A818 : Option Addr) (c819 : Nat), swageref14_Copy.l0 a0 (a0.f1.length + 1) x816 l817 = some o1263 ∧ Fr 63 a [(1, .pointer (some ⟨b5, 0, none⟩)), (2, .pointer (some ⟨b6, 0, none⟩)), (3, .pointer (some ⟨b7, 0, none⟩)), (4, .int .i64 x816)] ∧ Own G (Blk b5 [.int .i64 a0.f0, .slice A1 a0.f1.length c2] 36 :: Blk b6 [.int .i64 0, .slice none 0 0] 36 :: Blk b7 [.int .i64 a0.f0, .slice A818 l817.length c819] 36 :: Row k28 28 (.slice A818 l817.length c819) l817 :: L) W := by
   exact ⟨0, [], none, 0, ho1263, hF.sub ⟨rfl, rfl, rfl, rfl, trivial⟩, (Own.nilRow k28 28 hO).selT (Ls := [Blk b5 [.int .i64 a0.f0, .slice A1 a0.f1.length c2] 36, Blk b6 [.int .i64 0, .slice none 0 0] 36, Blk b7 [.int .i64 a0.f0, .slice none ([] : List S28).length 0] 36, Row k28 28 (.slice none ([] : List S28).length 0) ([] : List S28)]) [3, 2, 1, 0] 4 rfl rfl rfl⟩
  clear hF hO ho1263 ko1263
  refine TC.loop (fun n1264 a W => ∃ (x816 : Int) (l817 : (List S28)) (A818 : Option Addr) (c819 : Nat), swageref14_Copy.l0 a0 n1264 x816 l817 = some o1263 ∧ Fr 63 a [(1, .pointer (some ⟨b5, 0, none⟩)), (2, .pointer (some ⟨b6, 0, none⟩)), (3, .pointer (some ⟨b7, 0, none⟩)), (4, .int .i64 x816)] ∧ Own G (Blk b5 [.int .i64 a0.f0, .slice A1 a0.f1.length c2] 36 :: Blk b6 [.int .i64 0, .slice none 0 0] 36 :: Blk b7 [.int .i64 a0.f0, .slice A818 l817.length c819] 36 :: Row k28 28 (.slice A818 l817.length c819) l817 :: L) W) ?_ ?_ hS
  ·
   rintro a W ⟨x816, l817, A818, c819, h, hF, hO⟩
   exact none_no h
  ·
   clear hS
   rintro n1264 a W ⟨x816, l817, A818, c819, h, hF, hO⟩
   rw [swageref14_Copy.l0] at h
   refine TC.use ?_ hF hO
   clear hF hO
   refine TC.seq ?_
   refine TC.seq ?_
   refine TC.region ?_
   refine TL.cons (TO.val rfl rfl rfl (Val.move rfl) ?_)
   refine TL.cons (TO.val rfl rfl rfl (Val.fieldAddrB Try.underlying36 rfl fsz34 rfl rfl rfl) ?_)
   refine TL.cons (TO.val rfl rfl rfl (Val.loadB 0 agg34 rfl rfl rfl) ?_)
   refine TL.cons (TO.val rfl rfl rfl (Val.len Try.underlying34 rfl) ?_)
   refine TL.cons (TO.val rfl rfl rfl (Val.cmp rfl rfl run_lss) ?_)
   refine TL.nil ?_
   refine TQ.then_ ?_
   refine TC.cond_p rfl h (fun hc1704 h => ?_) (fun hc1704 h => ?_)
   ·
    refine TC.skip ?_
    refine TQ.then_ ?_
    refine TC.seq ?_
    refine TC.block ?_
    refine TC.seq ?_
    refine TC.region ?_
    refine TL.cons (TO.val rfl rfl rfl (Val.fieldAddrB Try.underlying36 rfl fsz34 rfl rfl rfl) ?_)
    refine TL.cons (TO.val rfl rfl rfl (Val.loadB 0 agg34 rfl rfl rfl) ?_)
    refine TL.cons (TO.val rfl rfl rfl (Val.move rfl) ?_)
    obtain ⟨y1972, hx1973, h⟩ := bind_no h
    obtain ⟨ad1974, cs1980, hA1975, hi1976, hj1977, hcl1978, hK1979⟩ := Rd.at hr3 hx1973
    obtain ⟨A1981, c1982, rfl, hr1983, hl1984⟩ := k28_openR hK1979
    refine TL.cons (TO.val rfl rfl rfl (Val.indexAddr Try.underlying34 fsz28 rfl hA1975 rfl hi1976 hj1977) ?_)
    refine TL.cons (TO.val rfl rfl rfl (Val.fieldAddrE Try.underlying28 rfl fsz25 rfl rfl) ?_)
    refine TL.cons (TO.val rfl rfl rfl (Val.loadsS (cs := [.int .i64 y1972.f1.f0, .int .i64 y1972.f1.f1, .int .i64 y1972.f1.f2, .int .i64 y1972.f1.f3]) agg25 fsz25 rfl rfl (Cl.sub (off := 1) (n := 4) hcl1978 rfl)) ?_)
    refine TL.cons (TO.val rfl rfl rfl (Val.build (cs := [.slice none 0 0, .int .i64 y1972.f1.f0, .int .i64 y1972.f1.f1, .int .i64 y1972.f1.f2, .int .i64 y1972.f1.f3]) (is := [1]) (xs := [.tmp 23]) Try.underlying28 zr28 bld28 rfl rfl rfl rfl) ?_)
    refine TL.cons (TL.alloc (cs := [.slice none 0 0, .int .i64 0, .int .i64 0, .int .i64 0, .int .i64 0]) rfl rfl zr28 rfl (fun b1985 => ?_))
    refine TL.cons (TL.store 0 (ds := [.slice none 0 0, .int .i64 y1972.f1.f0, .int .i64 y1972.f1.f1, .int .i64 y1972.f1.f2, .int .i64 y1972.f1.f3]) (cs' := [.slice none 0 0, .int .i64 y1972.f1.f0, .int .i64 y1972.f1.f1, .int .i64 y1972.f1.f2, .int .i64 y1972.f1.f3]) (L' := (Blk b1985 [.slice none 0 0, .int .i64 y1972.f1.f0, .int .i64 y1972.f1.f1, .int .i64 y1972.f1.f2, .int .i64 y1972.f1.f3] 28 :: Blk b5 [.int .i64 a0.f0, .slice A1 a0.f1.length c2] 36 :: Blk b6 [.int .i64 0, .slice none 0 0] 36 :: Blk b7 [.int .i64 a0.f0, .slice A818 l817.length c819] 36 :: Row k28 28 (.slice A818 l817.length c819) l817 :: L)) rfl fsz28 rfl rfl rfl rfl rfl (Nat.le_of_ble_eq_true rfl) rfl rfl ?_)
    refine TL.nil ?_
    refine TQ.then_ ?_
    refine TC.seq ?_
    refine TC.seq ?_
    refine TC.region ?_
    refine TL.cons (TO.val rfl rfl rfl (Val.assign rfl) ?_)
    refine TL.nil ?_
    refine TQ.then_ ?_
    obtain ⟨o2235, ho2235, ko2235⟩ := bind_no h
    clear h
    refine TC.tail (fun a W => ∃ (l2231 : (List S30)) (A2232 : Option Addr) (c2233 : Nat), l2231 = o2235 ∧ Fr 63 a [(1, .pointer (some ⟨b5, 0, none⟩)), (2, .pointer (some ⟨b6, 0, none⟩)), (3, .pointer (some ⟨b7, 0, none⟩)), (4, .int .i64 x816), (5, .pointer (some ⟨b1985, 0, none⟩))] ∧ Own G (Blk b1985 [.slice A2232 l2231.length c2233, .int .i64 y1972.f1.f0, .int .i64 y1972.f1.f1, .int .i64 y1972.f1.f2, .int .i64 y1972.f1.f3] 28 :: Blk b5 [.int .i64 a0.f0, .slice A1 a0.f1.length c2] 36 :: Blk b6 [.int .i64 0, .slice none 0 0] 36 :: Blk b7 [.int .i64 a0.f0, .slice A818 l817.length c819] 36 :: Row k30 30 (.slice A2232 l2231.length c2233) l2231 :: Row k28 28 (.slice A818 l817.length c819) l817 :: L) W) ?_ ?_
    ·
     rintro a W ⟨l2231, A2232, c2233, rfl, hF, hO⟩
     have h := ko2235
     clear ko2235 ho2235
     refine TQ.use ?_ hF hO
     clear hF hO
     refine TQ.then_ ?_
     refine TC.region ?_
     refine TL.cons (TO.val rfl rfl rfl (Val.fieldAddrB Try.underlying36 rfl fsz34 rfl rfl rfl) ?_)
     refine TL.cons (TO.val rfl rfl rfl (Val.loadB 3 agg34 rfl rfl rfl) ?_)
     refine TL.cons (TO.val rfl rfl rfl (Val.loadsB 0 (cs := [.slice A2232 l2231.length c2233, .int .i64 y1972.f1.f0, .int .i64 y1972.f1.f1, .int .i64 y1972.f1.f2, .int .i64 y1972.f1.f3]) agg28 fsz28 rfl rfl rfl rfl) ?_)
     refine TL.cons (TL.buildSlice (xs := [.tmp 58]) (vs := [.agg #[.slice A2232 l2231.length c2233, .int .i64 y1972.f1.f0, .int .i64 y1972.f1.f1, .int .i64 y1972.f1.f2, .int .i64 y1972.f1.f3]]) (cs := [.slice A2232 l2231.length c2233, .int .i64 y1972.f1.f0, .int .i64 y1972.f1.f1, .int .i64 y1972.f1.f2, .int .i64 y1972.f1.f3]) rfl rfl Try.underlying34 zs28 rfl rfl rfl rfl rfl rfl rfl rfl (fun b2298 => ?_))
     refine TK.sel (Ls := [Row k30 30 (.slice A2232 l2231.length c2233) l2231, Blk b2298 [.slice A2232 l2231.length c2233, .int .i64 y1972.f1.f0, .int .i64 y1972.f1.f1, .int .i64 y1972.f1.f2, .int .i64 y1972.f1.f3] 28, Blk b1985 [.slice A2232 l2231.length c2233, .int .i64 y1972.f1.f0, .int .i64 y1972.f1.f1, .int .i64 y1972.f1.f2, .int .i64 y1972.f1.f3] 28, Blk b5 [.int .i64 a0.f0, .slice A1 a0.f1.length c2] 36, Blk b6 [.int .i64 0, .slice none 0 0] 36, Blk b7 [.int .i64 a0.f0, .slice A818 l817.length c819] 36, Row k28 28 (.slice A818 l817.length c819) l817]) [5, 0, 1, 2, 3, 4, 6] 7 rfl rfl rfl ?_
     refine TK.conv (ch' := El k28 (⟨l2231, y1972.f1⟩ : S28) [.slice A2232 l2231.length c2233, .int .i64 y1972.f1.f0, .int .i64 y1972.f1.f1, .int .i64 y1972.f1.f2, .int .i64 y1972.f1.f3]) (fun B W F hh => k28_mkM W B F (⟨l2231, y1972.f1⟩ : S28) hh) ?_
     refine TK.sel (Ls := [Row k28 28 (.slice A818 l817.length c819) l817, El k28 (⟨l2231, y1972.f1⟩ : S28) [.slice A2232 l2231.length c2233, .int .i64 y1972.f1.f0, .int .i64 y1972.f1.f1, .int .i64 y1972.f1.f2, .int .i64 y1972.f1.f3], Blk b2298 [.slice A2232 l2231.length c2233, .int .i64 y1972.f1.f0, .int .i64 y1972.f1.f1, .int .i64 y1972.f1.f2, .int .i64 y1972.f1.f3] 28, Blk b1985 [.slice A2232 l2231.length c2233, .int .i64 y1972.f1.f0, .int .i64 y1972.f1.f1, .int .i64 y1972.f1.f2, .int .i64 y1972.f1.f3] 28, Blk b5 [.int .i64 a0.f0, .slice A1 a0.f1.length c2] 36, Blk b6 [.int .i64 0, .slice none 0 0] 36, Blk b7 [.int .i64 a0.f0, .slice A818 l817.length c819] 36]) [6, 0, 1, 2, 3, 4, 5] 7 rfl rfl rfl ?_
     obtain ⟨ha2299, h⟩ := ite_no h
     refine TL.cons (TL.append (xs := l817) k28 rfl rfl Try.underlying34 inf28 rfl (Nat.le_of_ble_eq_true rfl) (Nat.le_of_ble_eq_true rfl) rfl rfl (by omega) (fun A2300 c2301 => ?_))
     refine TL.cons (TO.val rfl rfl rfl (Val.fieldAddrB Try.underlying36 rfl fsz34 rfl rfl rfl) ?_)
     refine TL.cons (TL.store 4 (ds := [.slice A2300 (l817 ++ [(⟨l2231, y1972.f1⟩ : S28)]).length c2301]) (cs' := [.int .i64 a0.f0, .slice A2300 (l817 ++ [(⟨l2231, y1972.f1⟩ : S28)]).length c2301]) (L' := (Row k28 28 (.slice A2300 (l817 ++ [(⟨l2231, y1972.f1⟩ : S28)]).length c2301) (l817 ++ [(⟨l2231, y1972.f1⟩ : S28)]) :: Blk b1985 [.slice A2232 l2231.length c2233, .int .i64 y1972.f1.f0, .int .i64 y1972.f1.f1, .int .i64 y1972.f1.f2, .int .i64 y1972.f1.f3] 28 :: Blk b5 [.int .i64 a0.f0, .slice A1 a0.f1.length c2] 36 :: Blk b6 [.int .i64 0, .slice none 0 0] 36 :: Blk b7 [.int .i64 a0.f0, .slice A2300 (l817 ++ [(⟨l2231, y1972.f1⟩ : S28)]).length c2301] 36 :: L)) rfl fsz34 rfl rfl rfl rfl rfl (Nat.le_of_ble_eq_true rfl) rfl rfl ?_)
     refine TL.nil ?_
     refine TQ.inB ?_
     refine TQ.then_ ?_
     refine TC.region ?_
     refine TL.cons (TO.val rfl rfl rfl (Val.move rfl) ?_)
     refine TL.cons (TO.val rfl rfl rfl (Val.cmp rfl rfl run_add) ?_)
     refine TL.cons (TO.val rfl rfl rfl (Val.assign rfl) ?_)
     refine TL.nil ?_
     exact fun a W hF hO => ⟨IntKind.i64.wrap (x816 + 1), (l817 ++ [(⟨l2231, y1972.f1⟩ : S28)]), A2300, c2301, h, hF.sub ⟨rfl, rfl, rfl, rfl, trivial⟩, hO.selT (Ls := [Blk b5 [.int .i64 a0.f0, .slice A1 a0.f1.length c2] 36, Blk b6 [.int .i64 0, .slice none 0 0] 36, Blk b7 [.int .i64 a0.f0, .slice A2300 (l817 ++ [(⟨l2231, y1972.f1⟩ : S28)]).length c2301] 36, Row k28 28 (.slice A2300 (l817 ++ [(⟨l2231, y1972.f1⟩ : S28)]).length c2301) (l817 ++ [(⟨l2231, y1972.f1⟩ : S28)])]) [2, 3, 4, 0] 5 rfl rfl rfl⟩
    ·
     refine TC.block ?_
     intro a W hF hO
     have hS : ∃ (x2165 : Int) (l2166 : (List S30)) (A2167 : Option Addr) (c2168 : Nat), swageref14_Copy.l1 a0 x816 ((at? a0.f1 x816).elim 0 (fun vy2237 => vy2237.f0.length) + 1) x2165 l2166 = some o2235 ∧ Fr 63 a [(1, .pointer (some ⟨b5, 0, none⟩)), (2, .pointer (some ⟨b6, 0, none⟩)), (3, .pointer (some ⟨b7, 0, none⟩)), (4, .int .i64 x816), (5, .pointer (some ⟨b1985, 0, none⟩)), (6, .int .i64 x2165)] ∧ Own G (Blk b1985 [.slice A2167 l2166.length c2168, .int .i64 y1972.f1.f0, .int .i64 y1972.f1.f1, .int .i64 y1972.f1.f2, .int .i64 y1972.f1.f3] 28 :: Blk b5 [.int .i64 a0.f0, .slice A1 a0.f1.length c2] 36 :: Blk b6 [.int .i64 0, .slice none 0 0] 36 :: Blk b7 [.int .i64 a0.f0, .slice A818 l817.length c819] 36 :: Row k30 30 (.slice A2167 l2166.length c2168) l2166 :: Row k28 28 (.slice A818 l817.length c819) l817 :: L) W := by
      exact ⟨0, [], none, 0, ho2235, hF.sub ⟨rfl, rfl, rfl, rfl, rfl, rfl, trivial⟩, (Own.nilRow k30 30 hO).selT (Ls := [Blk b1985 [.slice none ([] : List S30).length 0, .int .i64 y1972.f1.f0, .int .i64 y1972.f1.f1, .int .i64 y1972.f1.f2, .int .i64 y1972.f1.f3] 28, Blk b5 [.int .i64 a0.f0, .slice A1 a0.f1.length c2] 36, Blk b6 [.int .i64 0, .slice none 0 0] 36, Blk b7 [.int .i64 a0.f0, .slice A818 l817.length c819] 36, Row k30 30 (.slice none ([] : List S30).length 0) ([] : List S30), Row k28 28 (.slice A818 l817.length c819) l817]) [1, 2, 3, 4, 0, 5] 6 rfl rfl rfl⟩
     clear hF hO ho2235 ko2235
     refine TC.loop (fun n2236 a W => ∃ (x2165 : Int) (l2166 : (List S30)) (A2167 : Option Addr) (c2168 : Nat), swageref14_Copy.l1 a0 x816 n2236 x2165 l2166 = some o2235 ∧ Fr 63 a [(1, .pointer (some ⟨b5, 0, none⟩)), (2, .pointer (some ⟨b6, 0, none⟩)), (3, .pointer (some ⟨b7, 0, none⟩)), (4, .int .i64 x816), (5, .pointer (some ⟨b1985, 0, none⟩)), (6, .int .i64 x2165)] ∧ Own G (Blk b1985 [.slice A2167 l2166.length c2168, .int .i64 y1972.f1.f0, .int .i64 y1972.f1.f1, .int .i64 y1972.f1.f2, .int .i64 y1972.f1.f3] 28 :: Blk b5 [.int .i64 a0.f0, .slice A1 a0.f1.length c2] 36 :: Blk b6 [.int .i64 0, .slice none 0 0] 36 :: Blk b7 [.int .i64 a0.f0, .slice A818 l817.length c819] 36 :: Row k30 30 (.slice A2167 l2166.length c2168) l2166 :: Row k28 28 (.slice A818 l817.length c819) l817 :: L) W) ?_ ?_ hS
     ·
      rintro a W ⟨x2165, l2166, A2167, c2168, h, hF, hO⟩
      exact none_no h
     ·
      clear hS
      rintro n2236 a W ⟨x2165, l2166, A2167, c2168, h, hF, hO⟩
      rw [swageref14_Copy.l1] at h
      refine TC.use ?_ hF hO
      clear hF hO
      refine TC.seq ?_
      refine TC.seq ?_
      refine TC.region ?_
      refine TL.cons (TO.val rfl rfl rfl (Val.move rfl) ?_)
      refine TL.cons (TO.val rfl rfl rfl (Val.fieldAddrB Try.underlying36 rfl fsz34 rfl rfl rfl) ?_)
      refine TL.cons (TO.val rfl rfl rfl (Val.loadB 1 agg34 rfl rfl rfl) ?_)
      refine TL.cons (TO.val rfl rfl rfl (Val.move rfl) ?_)
      obtain ⟨y2302, hx2303, h⟩ := bind_no h
      obtain ⟨ad2304, cs2310, hA2305, hi2306, hj2307, hcl2308, hK2309⟩ := Rd.at hr3 hx2303
      obtain ⟨A2311, c2312, rfl, hr2313, hl2314⟩ := k28_openR hK2309
      refine TL.cons (TO.val rfl rfl rfl (Val.indexAddr Try.underlying34 fsz28 rfl hA2305 rfl hi2306 hj2307) ?_)
      refine TL.cons (TO.val rfl rfl rfl (Val.fieldAddrE Try.underlying28 rfl fsz26 rfl rfl) ?_)
      refine TL.cons (TO.val rfl rfl rfl (Val.loadS agg26 rfl (hcl2308 0 _ rfl)) ?_)
      refine TL.cons (TO.val rfl rfl rfl (Val.len Try.underlying26 rfl) ?_)
      refine TL.cons (TO.val rfl rfl rfl (Val.cmp rfl rfl run_lss) ?_)
      refine TL.nil ?_
      refine TQ.then_ ?_
      refine TC.cond_p rfl h (fun hc2316 h => ?_) (fun hc2316 h => ?_)
      ·
       refine TC.skip ?_
       refine TQ.then_ ?_
       refine TC.seq ?_
       refine TC.block ?_
       refine TC.seq ?_
       refine TC.region ?_
       refine TL.cons (TO.val rfl rfl rfl (Val.fieldAddrB Try.underlying36 rfl fsz34 rfl rfl rfl) ?_)
       refine TL.cons (TO.val rfl rfl rfl (Val.loadB 1 agg34 rfl rfl rfl) ?_)
       refine TL.cons (TO.val rfl rfl rfl (Val.move rfl) ?_)
       refine TL.cons (TO.val rfl rfl rfl (Val.indexAddr Try.underlying34 fsz28 rfl hA2305 rfl hi2306 hj2307) ?_)
       refine TL.cons (TO.val rfl rfl rfl (Val.fieldAddrE Try.underlying28 rfl fsz26 rfl rfl) ?_)
       refine TL.cons (TO.val rfl rfl rfl (Val.loadS agg26 rfl (hcl2308 0 _ rfl)) ?_)
       refine TL.cons (TO.val rfl rfl rfl (Val.move rfl) ?_)
       obtain ⟨y2340, hx2341, h⟩ := bind_no h
       obtain ⟨ad2342, cs2348, hA2343, hi2344, hj2345, hcl2346, hK2347⟩ := Rd.at hr2313 hx2341
       obtain ⟨A2349, c2350, rfl, hr2351, hl2352⟩ := k30_openR hK2347
       refine TL.cons (TO.val rfl rfl rfl (Val.indexAddr Try.underlying26 fsz30 rfl hA2343 rfl hi2344 hj2345) ?_)
       refine TL.cons (TO.val rfl rfl rfl (Val.loadsS (cs := [.int .i64 y2340.f0, .int .i64 y2340.f1, .int .i64 y2340.f2, .int .i64 y2340.f3, .int .i64 y2340.f4, .slice A2349 y2340.f5.length c2350]) agg30 fsz30 rfl rfl (Cl.sub (off := 0) (n := 6) hcl2346 rfl)) ?_)
       refine TL.cons (TL.alloc (cs := [.int .i64 0, .int .i64 0, .int .i64 0, .int .i64 0, .int .i64 0, .slice none 0 0]) rfl rfl zr30 rfl (fun b2353 => ?_))
       refine TL.cons (TL.store 0 (ds := [.int .i64 y2340.f0, .int .i64 y2340.f1, .int .i64 y2340.f2, .int .i64 y2340.f3, .int .i64 y2340.f4, .slice A2349 y2340.f5.length c2350]) (cs' := [.int .i64 y2340.f0, .int .i64 y2340.f1, .int .i64 y2340.f2, .int .i64 y2340.f3, .int .i64 y2340.f4, .slice A2349 y2340.f5.length c2350]) (L' := (Blk b2353 [.int .i64 y2340.f0, .int .i64 y2340.f1, .int .i64 y2340.f2, .int .i64 y2340.f3, .int .i64 y2340.f4, .slice A2349 y2340.f5.length c2350] 30 :: Blk b1985 [.slice A2167 l2166.length c2168, .int .i64 y1972.f1.f0, .int .i64 y1972.f1.f1, .int .i64 y1972.f1.f2, .int .i64 y1972.f1.f3] 28 :: Blk b5 [.int .i64 a0.f0, .slice A1 a0.f1.length c2] 36 :: Blk b6 [.int .i64 0, .slice none 0 0] 36 :: Blk b7 [.int .i64 a0.f0, .slice A818 l817.length c819] 36 :: Row k30 30 (.slice A2167 l2166.length c2168) l2166 :: Row k28 28 (.slice A818 l817.length c819) l817 :: L)) rfl fsz30 rfl rfl rfl rfl rfl (Nat.le_of_ble_eq_true rfl) rfl rfl ?_)
       refine TL.nil ?_
       refine TQ.then_ ?_
       refine TC.seq ?_
       refine TC.region ?_
       refine TL.cons (TL.buildSlice0 (Kd.int .i64) rfl rfl Try.underlying22 zs3 (fun b2354 => ?_))
       refine TL.cons (TO.val rfl rfl rfl (Val.fieldAddrB Try.underlying30 rfl fsz22 rfl rfl rfl) ?_)
       refine TL.cons (TO.val rfl rfl rfl (Val.loadB 1 agg22 rfl rfl rfl) ?_)
       obtain ⟨ha2356, h⟩ := ite_no h
       refine TL.cons (TL.appendR (xs := ([] : List Int)) (ys := y2340.f5) (Kd.int .i64) (Kd.int .i64) rfl rfl Try.underlying22 inf3 rfl (Nat.le_of_ble_eq_true rfl) (Nat.le_of_ble_eq_true rfl) rfl rfl (by omega) hr2351 rfl (fun _ _ _ _ _ h => h) (fun A2357 c2358 => ?_))
       refine TL.cons (TO.val rfl rfl rfl (Val.fieldAddrB Try.underlying30 rfl fsz22 rfl rfl rfl) ?_)
       refine TL.cons (TL.store 1 (ds := [.slice A2357 (([] : List Int) ++ y2340.f5).length c2358]) (cs' := [.int .i64 y2340.f0, .int .i64 y2340.f1, .int .i64 y2340.f2, .int .i64 y2340.f3, .int .i64 y2340.f4, .slice A2357 (([] : List Int) ++ y2340.f5).length c2358]) (L' := (Row (Kd.int .i64) 3 (.slice A2357 (([] : List Int) ++ y2340.f5).length c2358) (([] : List Int) ++ y2340.f5) :: Blk b2353 [.int .i64 y2340.f0, .int .i64 y2340.f1, .int .i64 y2340.f2, .int .i64 y2340.f3, .int .i64 y2340.f4, .slice A2357 (([] : List Int) ++ y2340.f5).length c2358] 30 :: Blk b1985 [.slice A2167 l2166.length c2168, .int .i64 y1972.f1.f0, .int .i64 y1972.f1.f1, .int .i64 y1972.f1.f2, .int .i64 y1972.f1.f3] 28 :: Blk b5 [.int .i64 a0.f0, .slice A1 a0.f1.length c2] 36 :: Blk b6 [.int .i64 0, .slice none 0 0] 36 :: Blk b7 [.int .i64 a0.f0, .slice A818 l817.length c819] 36 :: Row k30 30 (.slice A2167 l2166.length c2168) l2166 :: Row k28 28 (.slice A818 l817.length c819) l817 :: L)) rfl fsz22 rfl rfl rfl rfl rfl (Nat.le_of_ble_eq_true rfl) rfl rfl ?_)
       refine TL.nil ?_
       refine TQ.then_ ?_
       refine TC.region ?_
       refine TL.cons (TO.val rfl rfl rfl (Val.fieldAddrB Try.underlying28 rfl fsz26 rfl rfl rfl) ?_)
       refine TL.cons (TO.val rfl rfl rfl (Val.loadB 2 agg26 rfl rfl rfl) ?_)
       refine TL.cons (TO.val rfl rfl rfl (Val.loadsB 1 (cs := [.int .i64 y2340.f0, .int .i64 y2340.f1, .int .i64 y2340.f2, .int .i64 y2340.f3, .int .i64 y2340.f4, .slice A2357 (([] : List Int) ++ y2340.f5).length c2358]) agg30 fsz30 rfl rfl rfl rfl) ?_)
       refine TL.cons (TL.buildSlice (xs := [.tmp 52]) (vs := [.agg #[.int .i64 y2340.f0, .int .i64 y2340.f1, .int .i64 y2340.f2, .int .i64 y2340.f3, .int .i64 y2340.f4, .slice A2357 (([] : List Int) ++ y2340.f5).length c2358]]) (cs := [.int .i64 y2340.f0, .int .i64 y2340.f1, .int .i64 y2340.f2, .int .i64 y2340.f3, .int .i64 y2340.f4, .slice A2357 (([] : List Int) ++ y2340.f5).length c2358]) rfl rfl Try.underlying26 zs30 rfl rfl rfl rfl rfl rfl rfl rfl (fun b2359 => ?_))
       refine TK.sel (Ls := [Row (Kd.int .i64) 3 (.slice A2357 (([] : List Int) ++ y2340.f5).length c2358) (([] : List Int) ++ y2340.f5), Blk b2359 [.int .i64 y2340.f0, .int .i64 y2340.f1, .int .i64 y2340.f2, .int .i64 y2340.f3, .int .i64 y2340.f4, .slice A2357 (([] : List Int) ++ y2340.f5).length c2358] 30, Blk b2353 [.int .i64 y2340.f0, .int .i64 y2340.f1, .int .i64 y2340.f2, .int .i64 y2340.f3, .int .i64 y2340.f4, .slice A2357 (([] : List Int) ++ y2340.f5).length c2358] 30, Blk b1985 [.slice A2167 l2166.length c2168, .int .i64 y1972.f1.f0, .int .i64 y1972.f1.f1, .int .i64 y1972.f1.f2, .int .i64 y1972.f1.f3] 28, Blk b5 [.int .i64 a0.f0, .slice A1 a0.f1.length c2] 36, Blk b6 [.int .i64 0, .slice none 0 0] 36, Blk b7 [.int .i64 a0.f0, .slice A818 l817.length c819] 36, Row k30 30 (.slice A2167 l2166.length c2168) l2166, Row k28 28 (.slice A818 l817.length c819) l817]) [1, 0, 2, 3, 4, 5, 6, 7, 8] 9 rfl rfl rfl ?_
       refine TK.conv (ch' := El k30 (⟨y2340.f0, y2340.f1, y2340.f2, y2340.f3, y2340.f4, (([] : List Int) ++ y2340.f5)⟩ : S30) [.int .i64 y2340.f0, .int .i64 y2340.f1, .int .i64 y2340.f2, .int .i64 y2340.f3, .int .i64 y2340.f4, .slice A2357 (([] : List Int) ++ y2340.f5).length c2358]) (fun B W F hh => k30_mkM W B F (⟨y2340.f0, y2340.f1, y2340.f2, y2340.f3, y2340.f4, (([] : List Int) ++ y2340.f5)⟩ : S30) hh) ?_
       refine TK.sel (Ls := [Row k30 30 (.slice A2167 l2166.length c2168) l2166, El k30 (⟨y2340.f0, y2340.f1, y2340.f2, y2340.f3, y2340.f4, (([] : List Int) ++ y2340.f5)⟩ : S30) [.int .i64 y2340.f0, .int .i64 y2340.f1, .int .i64 y2340.f2, .int .i64 y2340.f3, .int .i64 y2340.f4, .slice A2357 (([] : List Int) ++ y2340.f5).length c2358], Blk b2359 [.int .i64 y2340.f0, .int .i64 y2340.f1, .int .i64 y2340.f2, .int .i64 y2340.f3, .int .i64 y2340.f4, .slice A2357 (([] : List Int) ++ y2340.f5).length c2358] 30, Blk b2353 [.int .i64 y2340.f0, .int .i64 y2340.f1, .int .i64 y2340.f2, .int .i64 y2340.f3, .int .i64 y2340.f4, .slice A2357 (([] : List Int) ++ y2340.f5).length c2358] 30, Blk b1985 [.slice A2167 l2166.length c2168, .int .i64 y1972.f1.f0, .int .i64 y1972.f1.f1, .int .i64 y1972.f1.f2, .int .i64 y1972.f1.f3] 28, Blk b5 [.int .i64 a0.f0, .slice A1 a0.f1.length c2] 36, Blk b6 [.int .i64 0, .slice none 0 0] 36, Blk b7 [.int .i64 a0.f0, .slice A818 l817.length c819] 36, Row k28 28 (.slice A818 l817.length c819) l817]) [7, 0, 1, 2, 3, 4, 5, 6, 8] 9 rfl rfl rfl ?_
       obtain ⟨ha2360, h⟩ := ite_no h
       refine TL.cons (TL.append (xs := l2166) k30 rfl rfl Try.underlying26 inf30 rfl (Nat.le_of_ble_eq_true rfl) (Nat.le_of_ble_eq_true rfl) rfl rfl (by omega) (fun A2361 c2362 => ?_))
       refine TL.cons (TO.val rfl rfl rfl (Val.fieldAddrB Try.underlying28 rfl fsz26 rfl rfl rfl) ?_)
       refine TL.cons (TL.store 2 (ds := [.slice A2361 (l2166 ++ [(⟨y2340.f0, y2340.f1, y2340.f2, y2340.f3, y2340.f4, (([] : List Int) ++ y2340.f5)⟩ : S30)]).length c2362]) (cs' := [.slice A2361 (l2166 ++ [(⟨y2340.f0, y2340.f1, y2340.f2, y2340.f3, y2340.f4, (([] : List Int) ++ y2340.f5)⟩ : S30)]).length c2362, .int .i64 y1972.f1.f0, .int .i64 y1972.f1.f1, .int .i64 y1972.f1.f2, .int .i64 y1972.f1.f3]) (L' := (Row k30 30 (.slice A2361 (l2166 ++ [(⟨y2340.f0, y2340.f1, y2340.f2, y2340.f3, y2340.f4, (([] : List Int) ++ y2340.f5)⟩ : S30)]).length c2362) (l2166 ++ [(⟨y2340.f0, y2340.f1, y2340.f2, y2340.f3, y2340.f4, (([] : List Int) ++ y2340.f5)⟩ : S30)]) :: Blk b2353 [.int .i64 y2340.f0, .int .i64 y2340.f1, .int .i64 y2340.f2, .int .i64 y2340.f3, .int .i64 y2340.f4, .slice A2357 (([] : List Int) ++ y2340.f5).length c2358] 30 :: Blk b1985 [.slice A2361 (l2166 ++ [(⟨y2340.f0, y2340.f1, y2340.f2, y2340.f3, y2340.f4, (([] : List Int) ++ y2340.f5)⟩ : S30)]).length c2362, .int .i64 y1972.f1.f0, .int .i64 y1972.f1.f1, .int .i64 y1972.f1.f2, .int .i64 y1972.f1.f3] 28 :: Blk b5 [.int .i64 a0.f0, .slice A1 a0.f1.length c2] 36 :: Blk b6 [.int .i64 0, .slice none 0 0] 36 :: Blk b7 [.int .i64 a0.f0, .slice A818 l817.length c819] 36 :: Row k28 28 (.slice A818 l817.length c819) l817 :: L)) rfl fsz26 rfl rfl rfl rfl rfl (Nat.le_of_ble_eq_true rfl) rfl rfl ?_)
       refine TL.nil ?_
       refine TQ.inB ?_
       refine TQ.then_ ?_
       refine TC.region ?_
       refine TL.cons (TO.val rfl rfl rfl (Val.move rfl) ?_)
       refine TL.cons (TO.val rfl rfl rfl (Val.cmp rfl rfl run_add) ?_)
       refine TL.cons (TO.val rfl rfl rfl (Val.assign rfl) ?_)
       refine TL.nil ?_
       exact fun a W hF hO => ⟨IntKind.i64.wrap (x2165 + 1), (l2166 ++ [(⟨y2340.f0, y2340.f1, y2340.f2, y2340.f3, y2340.f4, (([] : List Int) ++ y2340.f5)⟩ : S30)]), A2361, c2362, h, hF.sub ⟨rfl, rfl, rfl, rfl, rfl, rfl, trivial⟩, hO.selT (Ls := [Blk b1985 [.slice A2361 (l2166 ++ [(⟨y2340.f0, y2340.f1, y2340.f2, y2340.f3, y2340.f4, (([] : List Int) ++ y2340.f5)⟩ : S30)]).length c2362, .int .i64 y1972.f1.f0, .int .i64 y1972.f1.f1, .int .i64 y1972.f1.f2, .int .i64 y1972.f1.f3] 28, Blk b5 [.int .i64 a0.f0, .slice A1 a0.f1.length c2] 36, Blk b6 [.int .i64 0, .slice none 0 0] 36, Blk b7 [.int .i64 a0.f0, .slice A818 l817.length c819] 36, Row k30 30 (.slice A2361 (l2166 ++ [(⟨y2340.f0, y2340.f1, y2340.f2, y2340.f3, y2340.f4, (([] : List Int) ++ y2340.f5)⟩ : S30)]).length c2362) (l2166 ++ [(⟨y2340.f0, y2340.f1, y2340.f2, y2340.f3, y2340.f4, (([] : List Int) ++ y2340.f5)⟩ : S30)]), Row k28 28 (.slice A818 l817.length c819) l817]) [2, 3, 4, 5, 0, 6] 7 rfl rfl rfl⟩
      ·
       refine TC.exit ?_
       refine TQ.thenX ?_
       refine TQ.thenX ?_
       refine TQ.inBX ?_
       exact fun a W hF hO => ⟨l2166, A2167, c2168, Option.some.inj h, hF.sub ⟨rfl, rfl, rfl, rfl, rfl, trivial⟩, hO.selT (Ls := [Blk b1985 [.slice A2167 l2166.length c2168, .int .i64 y1972.f1.f0, .int .i64 y1972.f1.f1, .int .i64 y1972.f1.f2, .int .i64 y1972.f1.f3] 28, Blk b5 [.int .i64 a0.f0, .slice A1 a0.f1.length c2] 36, Blk b6 [.int .i64 0, .slice none 0 0] 36, Blk b7 [.int .i64 a0.f0, .slice A818 l817.length c819] 36, Row k30 30 (.slice A2167 l2166.length c2168) l2166, Row k28 28 (.slice A818 l817.length c819) l817]) [0, 1, 2, 3, 4, 5] 6 rfl rfl rfl⟩
   ·
    refine TC.exit ?_
    refine TQ.thenX ?_
    refine TQ.thenX ?_
    refine TQ.inBX ?_
    exact fun a W hF hO => ⟨l817, A818, c819, Option.some.inj h, hF.sub ⟨rfl, rfl, trivial⟩, hO.selT (Ls := [Blk b6 [.int .i64 0, .slice none 0 0] 36, Blk b7 [.int .i64 a0.f0, .slice A818 l817.length c819] 36, Row k28 28 (.slice A818 l817.length c819) l817]) [1, 2, 3] 4 rfl rfl rfl⟩
end Go.Proofs.Ytmacdhkfgoahcaa.Sy
set_option linter.unusedVariables false
set_option linter.unusedSimpArgs false
set_option maxRecDepth 100000
set_option maxHeartbeats 4000000
namespace Go.Proofs.Ytmacdhkfgoahcaa.Sy
open Go Go.RowKit Go.Proofs.YtmacdhkfgoahcaaW.PrintWords Go.Proofs.Ytmacdhkfgoahcaa.Q
def swageref02_Ints.l0 (a0 : (List Int)) (a1 : (List Int)) : Nat → Int → Option (Sum Bool (Unit))
 | 0, _ => none
 | n248 + 1, x168 => (if x168 < (a0.length : Int) then (at? a0 x168).bind fun y385 => (at? a1 x168).bind fun y394 => (if (!decide (y385 = y394)) = true then some (.inl false) else swageref02_Ints.l0 a0 a1 n248 (IntKind.i64.wrap (x168 + 1))) else some (.inr ()))
def swageref02_Ints.f (a0 : (List Int)) (a1 : (List Int)) : Option Bool := (if (!decide ((a0.length : Int) = (a1.length : Int))) = true then some false else (swageref02_Ints.l0 a0 a1 (a0.length + 1) 0).bind fun | .inl q_ => some q_ | .inr _ => (some true))
def swageref02_Ints.post (G : Gd)  (r : Bool) (v : Value) (G' : Gd) (Lr : List Ch) : Prop := G = G' ∧ v = .bool r ∧ Lr = []
theorem swageref02_Ints.calls {G : Gd} {r : Bool} {a0 : (List Int)} {a1 : (List Int)} {A1 : Option Addr} {c2 : Nat} {A5 : Option Addr} {c6 : Nat} (hr3 : Rd G (Kd.int .i64) A1 a0) (hl4 : a0.length ≤ c2) (hr7 : Rd G (Kd.int .i64) A5 a1) (hl8 : a1.length ≤ c6) (h : swageref02_Ints.f a0 a1 = some r) : Fn Try.prog 19 G [] [.slice A1 a0.length c2, .slice A5 a1.length c6] (swageref02_Ints.post G  r) := by
 refine Fn.intro (e := [(0, .slice A1 a0.length c2), (1, .slice A5 a1.length c6)]) 26 Try.func19 rfl Try.ntmps19 rfl rfl (Nat.le_of_ble_eq_true rfl) (fun L => ?_)
 unfold swageref02_Ints.f at h
 refine TC.seq ?_
 refine TC.region ?_
 refine TL.cons (TO.val rfl rfl rfl (Val.assign rfl) ?_)
 refine TL.nil ?_
 refine TQ.then_ ?_
 refine TC.seq ?_
 refine TC.seq ?_
 refine TC.region ?_
 refine TL.cons (TO.val rfl rfl rfl (Val.move rfl) ?_)
 refine TL.cons (TO.val rfl rfl rfl (Val.len Try.underlying22 rfl) ?_)
 refine TL.cons (TO.val rfl rfl rfl (Val.move rfl) ?_)
 refine TL.cons (TO.val rfl rfl rfl (Val.len Try.underlying22 rfl) ?_)
 refine TL.cons (TO.val rfl rfl rfl (Val.cmp rfl rfl run_neq) ?_)
 refine TL.nil ?_
 refine TQ.then_ ?_
 refine TC.cond_b rfl h (fun hc10 h => ?_) (fun hc10 h => ?_)
 ·
  refine TC.seq ?_
  refine TC.region ?_
  refine TL.cons (TO.val rfl rfl rfl (Val.assign rfl) ?_)
  refine TL.nil ?_
  refine TQ.then_ ?_
  refine TC.ret ?_
  refine TQ.thenR ?_
  obtain rfl := Option.some.inj h
  exact TQ.fin (.inl rfl) rfl Try.results19 (.tmp rfl .nil) rfl (FRel.mk (Ls := []) [] 0 (Gd.le.refl _) rfl rfl rfl ⟨rfl, rfl, rfl⟩)
 ·
  refine TC.skip ?_
  refine TQ.then_ ?_
  refine TC.seq ?_
  refine TC.seq ?_
  refine TC.region ?_
  refine TL.cons (TO.val rfl rfl rfl (Val.assign rfl) ?_)
  refine TL.nil ?_
  refine TQ.then_ ?_
  obtain ⟨o247, ho247, ko247⟩ := bind_no h
  clear h
  refine TC.tail (fun a W => (.inr ()) = o247 ∧ Fr 26 a [] ∧ Own G (L) W) ?_ ?_
  ·
   rintro a W ⟨rfl, hF, hO⟩
   have h := ko247
   clear ko247 ho247
   refine TQ.use ?_ hF hO
   clear hF hO
   refine TQ.then_ ?_
   refine TC.seq ?_
   refine TC.region ?_
   refine TL.cons (TO.val rfl rfl rfl (Val.assign rfl) ?_)
   refine TL.nil ?_
   refine TQ.then_ ?_
   refine TC.ret ?_
   obtain rfl := Option.some.inj h
   exact TQ.fin (.inl rfl) rfl Try.results19 (.tmp rfl .nil) rfl (FRel.mk (Ls := []) [] 0 (Gd.le.refl _) rfl rfl rfl ⟨rfl, rfl, rfl⟩)
  ·
   refine TC.block ?_
   intro a W hF hO
   have hS : ∃ (x168 : Int), swageref02_Ints.l0 a0 a1 (a0.length + 1) x168 = some o247 ∧ Fr 26 a [(0, .slice A1 a0.length c2), (1, .slice A5 a1.length c6), (5, .int .i64 x168)] ∧ Own G (L) W := by
    exact ⟨0, ho247, hF.sub ⟨rfl, rfl, rfl, trivial⟩, hO.selT (Ls := []) [] 0 rfl rfl rfl⟩
   clear hF hO ho247
   refine TC.loop (fun n248 a W => ∃ (x168 : Int), swageref02_Ints.l0 a0 a1 n248 x168 = some o247 ∧ Fr 26 a [(0, .slice A1 a0.length c2), (1, .slice A5 a1.length c6), (5, .int .i64 x168)] ∧ Own G (L) W) ?_ ?_ hS
   ·
    rintro a W ⟨x168, h, hF, hO⟩
    exact none_no h
   ·
    clear hS
    rintro n248 a W ⟨x168, h, hF, hO⟩
    rw [swageref02_Ints.l0] at h
    refine TC.use ?_ hF hO
    clear hF hO
    refine TC.seq ?_
    refine TC.seq ?_
    refine TC.region ?_
    refine TL.cons (TO.val rfl rfl rfl (Val.move rfl) ?_)
    refine TL.cons (TO.val rfl rfl rfl (Val.move rfl) ?_)
    refine TL.cons (TO.val rfl rfl rfl (Val.len Try.underlying22 rfl) ?_)
    refine TL.cons (TO.val rfl rfl rfl (Val.cmp rfl rfl run_lss) ?_)
    refine TL.nil ?_
    refine TQ.then_ ?_
    refine TC.cond_p rfl h (fun hc328 h => ?_) (fun hc328 h => ?_)
    ·
     refine TC.skip ?_
     refine TQ.then_ ?_
     refine TC.seq ?_
     refine TC.block ?_
     refine TC.seq ?_
     refine TC.regionAny [] [0, 1, 2, 3, 4, 5, 6, 7, 8] mixed (by kernel_rfl) ?_
     refine TA.take 0 rfl (by kernel_rfl) rfl (PQ.then_ (PQ.inB (PQ.then_ (PQ.then_ (PQ.inB (PQ.then_ (PQ.then_ PQ.body))))))) rfl (Val.move rfl) (fun W hO => hO) ?_
     refine TA.take 1 rfl (by kernel_rfl) rfl (PQ.then_ (PQ.inB (PQ.then_ (PQ.then_ (PQ.inB (PQ.then_ (PQ.then_ PQ.body))))))) rfl (Val.move rfl) (fun W hO => hO) ?_
     obtain ⟨y385, hx386, h⟩ := bind_no h
     obtain ⟨ad387, cs393, hA388, hi389, hj390, hcl391, hK392⟩ := Rd.at hr3 hx386
     obtain rfl := RdK.int hK392
     refine TA.take 2 rfl (by kernel_rfl) rfl (PQ.then_ (PQ.inB (PQ.then_ (PQ.then_ (PQ.inB (PQ.then_ (PQ.then_ PQ.body))))))) rfl (Val.indexAddr Try.underlying22 fsz3 rfl hA388 rfl hi389 hj390) (fun W hO => hO) ?_
     refine TA.take 3 rfl (by kernel_rfl) rfl (PQ.then_ (PQ.inB (PQ.then_ (PQ.then_ (PQ.inB (PQ.then_ (PQ.then_ PQ.body))))))) rfl (Val.loadS agg3 rfl (hcl391 0 _ rfl)) (fun W hO => hO) ?_
     refine TA.take 4 rfl (by kernel_rfl) rfl (PQ.then_ (PQ.inB (PQ.then_ (PQ.then_ (PQ.inB (PQ.then_ (PQ.then_ PQ.body))))))) rfl (Val.move rfl) (fun W hO => hO) ?_
     refine TA.take 5 rfl (by kernel_rfl) rfl (PQ.then_ (PQ.inB (PQ.then_ (PQ.then_ (PQ.inB (PQ.then_ (PQ.then_ PQ.body))))))) rfl (Val.move rfl) (fun W hO => hO) ?_
     obtain ⟨y394, hx395, h⟩ := bind_no h
     obtain ⟨ad396, cs402, hA397, hi398, hj399, hcl400, hK401⟩ := Rd.at hr7 hx395
     obtain rfl := RdK.int hK401
     refine TA.take 6 rfl (by kernel_rfl) rfl (PQ.then_ (PQ.inB (PQ.then_ (PQ.then_ (PQ.inB (PQ.then_ (PQ.then_ PQ.body))))))) rfl (Val.indexAddr Try.underlying22 fsz3 rfl hA397 rfl hi398 hj399) (fun W hO => hO) ?_
     refine TA.take 7 rfl (by kernel_rfl) rfl (PQ.then_ (PQ.inB (PQ.then_ (PQ.then_ (PQ.inB (PQ.then_ (PQ.then_ PQ.body))))))) rfl (Val.loadS agg3 rfl (hcl400 0 _ rfl)) (fun W hO => hO) ?_
     refine TA.take 8 rfl (by kernel_rfl) rfl (PQ.then_ (PQ.inB (PQ.then_ (PQ.then_ (PQ.inB (PQ.then_ (PQ.then_ PQ.body))))))) rfl (Val.cmp rfl rfl run_neq) (fun W hO => hO) ?_
     refine TA.done (by kernel_rfl) ?_
     refine TQ.then_ ?_
     refine TC.cond_b rfl h (fun hc404 h => ?_) (fun hc404 h => ?_)
     ·
      refine TC.seq ?_
      refine TC.region ?_
      refine TL.cons (TO.val rfl rfl rfl (Val.assign rfl) ?_)
      refine TL.nil ?_
      refine TQ.then_ ?_
      refine TC.ret ?_
      refine TQ.inBR ?_
      refine TQ.thenR ?_
      refine TQ.thenR ?_
      refine TQ.inBR ?_
      refine TQ.thenR ?_
      refine TQ.thenR ?_
      obtain rfl := Option.some.inj h
      have h := ko247
      obtain rfl := Option.some.inj h
      exact TQ.fin (.inl rfl) rfl Try.results19 (.tmp rfl .nil) rfl (FRel.mk (Ls := []) [] 0 (Gd.le.refl _) rfl rfl rfl ⟨rfl, rfl, rfl⟩)
     ·
      refine TC.skip ?_
      refine TQ.inB ?_
      refine TQ.then_ ?_
      refine TC.region ?_
      refine TL.cons (TO.val rfl rfl rfl (Val.move rfl) ?_)
      refine TL.cons (TO.val rfl rfl rfl (Val.cmp rfl rfl run_add) ?_)
      refine TL.cons (TO.val rfl rfl rfl (Val.assign rfl) ?_)
      refine TL.nil ?_
      exact fun a W hF hO => ⟨IntKind.i64.wrap (x168 + 1), h, hF.sub ⟨rfl, rfl, rfl, trivial⟩, hO.selT (Ls := []) [] 0 rfl rfl rfl⟩
    ·
     refine TC.exit ?_
     refine TQ.thenX ?_
     refine TQ.thenX ?_
     refine TQ.inBX ?_
     exact fun a W hF hO => ⟨Option.some.inj h, hF.sub trivial, hO.selT (Ls := []) [] 0 rfl rfl rfl⟩
end Go.Proofs.Ytmacdhkfgoahcaa.Sy
set_option linter.unusedVariables false
set_option linter.unusedSimpArgs false
set_option maxRecDepth 100000
set_option maxHeartbeats 4000000
namespace Go.Proofs.Ytmacdhkfgoahcaa.Sy
open Go Go.RowKit Go.Proofs.YtmacdhkfgoahcaaW.PrintWords Go.Proofs.Ytmacdhkfgoahcaa.Q
def swageref14_SameOp.f (a0 : S30) (a1 : S30) : Option Bool := (swageref02_Ints.f a0.f5 a1.f5).bind fun (y11 : Bool) => (if y11 = true then (if a0.f0 = a1.f0 then (if a0.f1 = a1.f1 then (if a0.f2 = a1.f2 then (if a0.f3 = a1.f3 then some (decide (a0.f4 = a1.f4)) else some false) else some false) else some false) else some false) else some false)
def swageref14_SameOp.post (G : Gd)  (r : Bool) (v : Value) (G' : Gd) (Lr : List Ch) : Prop := G = G' ∧ v = .bool r ∧ Lr = []
theorem swageref14_SameOp.calls {G : Gd} {r : Bool} {a0 : S30} {a1 : S30} {A1 : Option Addr} {c2 : Nat} {A5 : Option Addr} {c6 : Nat} (hr3 : Rd G (Kd.int .i64) A1 a0.f5) (hl4 : a0.f5.length ≤ c2) (hr7 : Rd G (Kd.int .i64) A5 a1.f5) (hl8 : a1.f5.length ≤ c6) (h : swageref14_SameOp.f a0 a1 = some r) : Fn Try.prog 21 G [] [.agg #[.int .i64 a0.f0, .int .i64 a0.f1, .int .i64 a0.f2, .int .i64 a0.f3, .int .i64 a0.f4, .slice A1 a0.f5.length c2], .agg #[.int .i64 a1.f0, .int .i64 a1.f1, .int .i64 a1.f2, .int .i64 a1.f3, .int .i64 a1.f4, .slice A5 a1.f5.length c6]] (swageref14_SameOp.post G  r) := by
 refine Fn.intro (e := [(0, .agg #[.int .i64 a0.f0, .int .i64 a0.f1, .int .i64 a0.f2, .int .i64 a0.f3, .int .i64 a0.f4, .slice A1 a0.f5.length c2]), (1, .agg #[.int .i64 a1.f0, .int .i64 a1.f1, .int .i64 a1.f2, .int .i64 a1.f3, .int .i64 a1.f4, .slice A5 a1.f5.length c6])]) 47 Try.func21 rfl Try.ntmps21 rfl rfl (Nat.le_of_ble_eq_true rfl) (fun L => ?_)
 unfold swageref14_SameOp.f at h
 refine TC.seq ?_
 refine TC.region ?_
 refine TL.cons (TL.box (cs := [.int .i64 a0.f0, .int .i64 a0.f1, .int .i64 a0.f2, .int .i64 a0.f3, .int .i64 a0.f4, .slice A1 a0.f5.length c2]) rfl rfl rfl rfl (fun b9 => ?_))
 refine TL.cons (TL.box (cs := [.int .i64 a1.f0, .int .i64 a1.f1, .int .i64 a1.f2, .int .i64 a1.f3, .int .i64 a1.f4, .slice A5 a1.f5.length c6]) rfl rfl rfl rfl (fun b10 => ?_))
 refine TL.cons (TO.val rfl rfl rfl (Val.assign rfl) ?_)
 refine TL.nil ?_
 refine TQ.then_ ?_
 refine TC.seq ?_
 refine TC.region ?_
 refine TL.cons (TO.val rfl rfl rfl (Val.fieldAddrB Try.underlying30 rfl fsz22 rfl rfl rfl) ?_)
 refine TL.cons (TO.val rfl rfl rfl (Val.loadB 1 agg22 rfl rfl rfl) ?_)
 refine TL.cons (TO.val rfl rfl rfl (Val.fieldAddrB Try.underlying30 rfl fsz22 rfl rfl rfl) ?_)
 refine TL.cons (TO.val rfl rfl rfl (Val.loadB 0 agg22 rfl rfl rfl) ?_)
 obtain ⟨y11, hy12, h⟩ := bind_no h
 refine TL.cons (TL.callV (Lin := []) (args := [.slice A1 a0.f5.length c2, .slice A5 a1.f5.length c6]) rfl rfl rfl hbd19 rfl rfl (swageref02_Ints.calls (a0 := a0.f5) (a1 := a1.f5) hr3 hl4 hr7 hl8 hy12) rfl ?_)
 rintro _ _ _ _ ⟨rfl, rfl, rfl⟩
 refine TL.cons (TO.val rfl rfl rfl (Val.assign rfl) ?_)
 refine TL.nil ?_
 refine TQ.then_ ?_
 refine TC.seq ?_
 refine TC.region ?_
 refine TL.cons (TO.val rfl rfl rfl (Val.move rfl) ?_)
 refine TL.cons (TO.val rfl rfl rfl (Val.move rfl) ?_)
 refine TK.split (p := y11 = true) h (fun hg28 h => ?_) (fun hg28 h => ?_)
 ·
  have hk29 : y11 = true := hg28
  refine TL.cons (TO.val (Wt.yes rfl rfl rfl hk29) rfl rfl (Val.fieldAddrB Try.underlying30 rfl fsz3 rfl rfl rfl) ?_)
  refine TL.cons (TO.val (Wt.yes rfl rfl rfl hk29) rfl rfl (Val.loadB 1 agg3 rfl rfl rfl) ?_)
  refine TL.cons (TO.val (Wt.yes rfl rfl rfl hk29) rfl rfl (Val.fieldAddrB Try.underlying30 rfl fsz3 rfl rfl rfl) ?_)
  refine TL.cons (TO.val (Wt.yes rfl rfl rfl hk29) rfl rfl (Val.loadB 0 agg3 rfl rfl rfl) ?_)
  refine TL.cons (TO.val (Wt.yes rfl rfl rfl hk29) rfl rfl (Val.cmp rfl rfl run_eql) ?_)
  refine TL.cons (TO.val rfl rfl rfl (Val.pickY rfl hk29 rfl) ?_)
  refine TL.cons (TO.val rfl rfl rfl (Val.move rfl) ?_)
  refine TK.split (p := a0.f0 = a1.f0) h (fun hg30 h => ?_) (fun hg30 h => ?_)
  ·
   have hk31 : decide (a0.f0 = a1.f0) = true := decide_eq_true hg30
   refine TL.cons (TO.val (Wt.yes rfl rfl rfl hk31) rfl rfl (Val.fieldAddrB Try.underlying30 rfl fsz3 rfl rfl rfl) ?_)
   refine TL.cons (TO.val (Wt.yes rfl rfl rfl hk31) rfl rfl (Val.loadB 1 agg3 rfl rfl rfl) ?_)
   refine TL.cons (TO.val (Wt.yes rfl rfl rfl hk31) rfl rfl (Val.fieldAddrB Try.underlying30 rfl fsz3 rfl rfl rfl) ?_)
   refine TL.cons (TO.val (Wt.yes rfl rfl rfl hk31) rfl rfl (Val.loadB 0 agg3 rfl rfl rfl) ?_)
   refine TL.cons (TO.val (Wt.yes rfl rfl rfl hk31) rfl rfl (Val.cmp rfl rfl run_eql) ?_)
   refine TL.cons (TO.val rfl rfl rfl (Val.pickY rfl hk31 rfl) ?_)
   refine TL.cons (TO.val rfl rfl rfl (Val.move rfl) ?_)
   refine TK.split (p := a0.f1 = a1.f1) h (fun hg32 h => ?_) (fun hg32 h => ?_)
   ·
    have hk33 : decide (a0.f1 = a1.f1) = true := decide_eq_true hg32
    refine TL.cons (TO.val (Wt.yes rfl rfl rfl hk33) rfl rfl (Val.fieldAddrB Try.underlying30 rfl fsz3 rfl rfl rfl) ?_)
    refine TL.cons (TO.val (Wt.yes rfl rfl rfl hk33) rfl rfl (Val.loadB 1 agg3 rfl rfl rfl) ?_)
    refine TL.cons (TO.val (Wt.yes rfl rfl rfl hk33) rfl rfl (Val.fieldAddrB Try.underlying30 rfl fsz3 rfl rfl rfl) ?_)
    refine TL.cons (TO.val (Wt.yes rfl rfl rfl hk33) rfl rfl (Val.loadB 0 agg3 rfl rfl rfl) ?_)
    refine TL.cons (TO.val (Wt.yes rfl rfl rfl hk33) rfl rfl (Val.cmp rfl rfl run_eql) ?_)
    refine TL.cons (TO.val rfl rfl rfl (Val.pickY rfl hk33 rfl) ?_)
    refine TL.cons (TO.val rfl rfl rfl (Val.move rfl) ?_)
    refine TK.split (p := a0.f2 = a1.f2) h (fun hg34 h => ?_) (fun hg34 h => ?_)
    ·
     have hk35 : decide (a0.f2 = a1.f2) = true := decide_eq_true hg34
     refine TL.cons (TO.val (Wt.yes rfl rfl rfl hk35) rfl rfl (Val.fieldAddrB Try.underlying30 rfl fsz3 rfl rfl rfl) ?_)
     refine TL.cons (TO.val (Wt.yes rfl rfl rfl hk35) rfl rfl (Val.loadB 1 agg3 rfl rfl rfl) ?_)
     refine TL.cons (TO.val (Wt.yes rfl rfl rfl hk35) rfl rfl (Val.fieldAddrB Try.underlying30 rfl fsz3 rfl rfl rfl) ?_)
     refine TL.cons (TO.val (Wt.yes rfl rfl rfl hk35) rfl rfl (Val.loadB 0 agg3 rfl rfl rfl) ?_)
     refine TL.cons (TO.val (Wt.yes rfl rfl rfl hk35) rfl rfl (Val.cmp rfl rfl run_eql) ?_)
     refine TL.cons (TO.val rfl rfl rfl (Val.pickY rfl hk35 rfl) ?_)
     refine TL.cons (TO.val rfl rfl rfl (Val.move rfl) ?_)
     refine TK.split (p := a0.f3 = a1.f3) h (fun hg36 h => ?_) (fun hg36 h => ?_)
     ·
      have hk37 : decide (a0.f3 = a1.f3) = true := decide_eq_true hg36
      refine TL.cons (TO.val (Wt.yes rfl rfl rfl hk37) rfl rfl (Val.fieldAddrB Try.underlying30 rfl fsz3 rfl rfl rfl) ?_)
      refine TL.cons (TO.val (Wt.yes rfl rfl rfl hk37) rfl rfl (Val.loadB 1 agg3 rfl rfl rfl) ?_)
      refine TL.cons (TO.val (Wt.yes rfl rfl rfl hk37) rfl rfl (Val.fieldAddrB Try.underlying30 rfl fsz3 rfl rfl rfl) ?_)
      refine TL.cons (TO.val (Wt.yes rfl rfl rfl hk37) rfl rfl (Val.loadB 0 agg3 rfl rfl rfl) ?_)
      refine TL.cons (TO.val (Wt.yes rfl rfl rfl hk37) rfl rfl (Val.cmp rfl rfl run_eql) ?_)
      refine TL.cons (TO.val rfl rfl rfl (Val.pickY rfl hk37 rfl) ?_)
      refine TL.cons (TO.val rfl rfl rfl (Val.assign rfl) ?_)
      refine TL.nil ?_
      refine TQ.then_ ?_
      refine TC.ret ?_
      obtain rfl := Option.some.inj h
      exact TQ.fin (.inl rfl) rfl Try.results21 (.tmp rfl .nil) rfl (FRel.mk (Ls := []) [] 2 (Gd.le.refl _) rfl rfl rfl ⟨rfl, rfl, rfl⟩)
     ·
      have hk38 : decide (a0.f3 = a1.f3) = false := decide_eq_false hg36
      refine TL.cons (TL.not (Wt.no rfl rfl rfl hk38) rfl ?_)
      refine TL.cons (TL.not (Wt.no rfl rfl rfl hk38) rfl ?_)
      refine TL.cons (TL.not (Wt.no rfl rfl rfl hk38) rfl ?_)
      refine TL.cons (TL.not (Wt.no rfl rfl rfl hk38) rfl ?_)
      refine TL.cons (TL.not (Wt.no rfl rfl rfl hk38) rfl ?_)
      refine TL.cons (TO.val rfl rfl rfl (Val.pickN rfl hk38 rfl) ?_)
      refine TL.cons (TO.val rfl rfl rfl (Val.assign rfl) ?_)
      refine TL.nil ?_
      refine TQ.then_ ?_
      refine TC.ret ?_
      obtain rfl := Option.some.inj h
      exact TQ.fin (.inl rfl) rfl Try.results21 (.tmp rfl .nil) rfl (FRel.mk (Ls := []) [] 2 (Gd.le.refl _) rfl rfl rfl ⟨rfl, rfl, rfl⟩)
    ·
     have hk39 : decide (a0.f2 = a1.f2) = false := decide_eq_false hg34
     refine TL.cons (TL.not (Wt.no rfl rfl rfl hk39) rfl ?_)
     refine TL.cons (TL.not (Wt.no rfl rfl rfl hk39) rfl ?_)
     refine TL.cons (TL.not (Wt.no rfl rfl rfl hk39) rfl ?_)
     refine TL.cons (TL.not (Wt.no rfl rfl rfl hk39) rfl ?_)
     refine TL.cons (TL.not (Wt.no rfl rfl rfl hk39) rfl ?_)
     refine TL.cons (TO.val rfl rfl rfl (Val.pickN rfl hk39 rfl) ?_)
     refine TL.cons (TO.val rfl rfl rfl (Val.move rfl) ?_)
     refine TL.cons (TL.not (Wt.no rfl rfl rfl rfl) rfl ?_)
     refine TL.cons (TL.not (Wt.no rfl rfl rfl rfl) rfl ?_)
     refine TL.cons (TL.not (Wt.no rfl rfl rfl rfl) rfl ?_)
     refine TL.cons (TL.not (Wt.no rfl rfl rfl rfl) rfl ?_)
     refine TL.cons (TL.not (Wt.no rfl rfl rfl rfl) rfl ?_)
     refine TL.cons (TO.val rfl rfl rfl (Val.pickN rfl rfl rfl) ?_)
     refine TL.cons (TO.val rfl rfl rfl (Val.assign rfl) ?_)
     refine TL.nil ?_
     refine TQ.then_ ?_
     refine TC.ret ?_
     obtain rfl := Option.some.inj h
     exact TQ.fin (.inl rfl) rfl Try.results21 (.tmp rfl .nil) rfl (FRel.mk (Ls := []) [] 2 (Gd.le.refl _) rfl rfl rfl ⟨rfl, rfl, rfl⟩)
   ·
    have hk40 : decide (a0.f1 = a1.f1) = false := decide_eq_false hg32
    refine TL.cons (TL.not (Wt.no rfl rfl rfl hk40) rfl ?_)
    refine TL.cons (TL.not (Wt.no rfl rfl rfl hk40) rfl ?_)
    refine TL.cons (TL.not (Wt.no rfl rfl rfl hk40) rfl ?_)
    refine TL.cons (TL.not (Wt.no rfl rfl rfl hk40) rfl ?_)
    refine TL.cons (TL.not (Wt.no rfl rfl rfl hk40) rfl ?_)
    refine TL.cons (TO.val rfl rfl rfl (Val.pickN rfl hk40 rfl) ?_)
    refine TL.cons (TO.val rfl rfl rfl (Val.move rfl) ?_)
    refine TL.cons (TL.not (Wt.no rfl rfl rfl rfl) rfl ?_)
    refine TL.cons (TL.not (Wt.no rfl rfl rfl rfl) rfl ?_)
    refine TL.cons (TL.not (Wt.no rfl rfl rfl rfl) rfl ?_)
    refine TL.cons (TL.not (Wt.no rfl rfl rfl rfl) rfl ?_)
    refine TL.cons (TL.not (Wt.no rfl rfl rfl rfl) rfl ?_)
    refine TL.cons (TO.val rfl rfl rfl (Val.pickN rfl rfl rfl) ?_)
    refine TL.cons (TO.val rfl rfl rfl (Val.move rfl) ?_)
    refine TL.cons (TL.not (Wt.no rfl rfl rfl rfl) rfl ?_)
    refine TL.cons (TL.not (Wt.no rfl rfl rfl rfl) rfl ?_)
    refine TL.cons (TL.not (Wt.no rfl rfl rfl rfl) rfl ?_)
    refine TL.cons (TL.not (Wt.no rfl rfl rfl rfl) rfl ?_)
    refine TL.cons (TL.not (Wt.no rfl rfl rfl rfl) rfl ?_)
    refine TL.cons (TO.val rfl rfl rfl (Val.pickN rfl rfl rfl) ?_)
    refine TL.cons (TO.val rfl rfl rfl (Val.assign rfl) ?_)
    refine TL.nil ?_
    refine TQ.then_ ?_
    refine TC.ret ?_
    obtain rfl := Option.some.inj h
    exact TQ.fin (.inl rfl) rfl Try.results21 (.tmp rfl .nil) rfl (FRel.mk (Ls := []) [] 2 (Gd.le.refl _) rfl rfl rfl ⟨rfl, rfl, rfl⟩)
  ·
   have hk41 : decide (a0.f0 = a1.f0) = false := decide_eq_false hg30
   refine TL.cons (TL.not (Wt.no rfl rfl rfl hk41) rfl ?_)
   refine TL.cons (TL.not (Wt.no rfl rfl rfl hk41) rfl ?_)
   refine TL.cons (TL.not (Wt.no rfl rfl rfl hk41) rfl ?_)
   refine TL.cons (TL.not (Wt.no rfl rfl rfl hk41) rfl ?_)
   refine TL.cons (TL.not (Wt.no rfl rfl rfl hk41) rfl ?_)
   refine TL.cons (TO.val rfl rfl rfl (Val.pickN rfl hk41 rfl) ?_)
   refine TL.cons (TO.val rfl rfl rfl (Val.move rfl) ?_)
   refine TL.cons (TL.not (Wt.no rfl rfl rfl rfl) rfl ?_)
   refine TL.cons (TL.not (Wt.no rfl rfl rfl rfl) rfl ?_)
   refine TL.cons (TL.not (Wt.no rfl rfl rfl rfl) rfl ?_)
   refine TL.cons (TL.not (Wt.no rfl rfl rfl rfl) rfl ?_)
   refine TL.cons (TL.not (Wt.no rfl rfl rfl rfl) rfl ?_)
   refine TL.cons (TO.val rfl rfl rfl (Val.pickN rfl rfl rfl) ?_)
   refine TL.cons (TO.val rfl rfl rfl (Val.move rfl) ?_)
   refine TL.cons (TL.not (Wt.no rfl rfl rfl rfl) rfl ?_)
   refine TL.cons (TL.not (Wt.no rfl rfl rfl rfl) rfl ?_)
   refine TL.cons (TL.not (Wt.no rfl rfl rfl rfl) rfl ?_)
   refine TL.cons (TL.not (Wt.no rfl rfl rfl rfl) rfl ?_)
   refine TL.cons (TL.not (Wt.no rfl rfl rfl rfl) rfl ?_)
   refine TL.cons (TO.val rfl rfl rfl (Val.pickN rfl rfl rfl) ?_)
   refine TL.cons (TO.val rfl rfl rfl (Val.move rfl) ?_)
   refine TL.cons (TL.not (Wt.no rfl rfl rfl rfl) rfl ?_)
   refine TL.cons (TL.not (Wt.no rfl rfl rfl rfl) rfl ?_)
   refine TL.cons (TL.not (Wt.no rfl rfl rfl rfl) rfl ?_)
   refine TL.cons (TL.not (Wt.no rfl rfl rfl rfl) rfl ?_)
   refine TL.cons (TL.not (Wt.no rfl rfl rfl rfl) rfl ?_)
   refine TL.cons (TO.val rfl rfl rfl (Val.pickN rfl rfl rfl) ?_)
   refine TL.cons (TO.val rfl rfl rfl (Val.assign rfl) ?_)
   refine TL.nil ?_
   refine TQ.then_ ?_
   refine TC.ret ?_
   obtain rfl := Option.some.inj h
   exact TQ.fin (.inl rfl) rfl Try.results21 (.tmp rfl .nil) rfl (FRel.mk (Ls := []) [] 2 (Gd.le.refl _) rfl rfl rfl ⟨rfl, rfl, rfl⟩)
 ·
  have hk42 : y11 = false := (by simpa using hg28)
  refine TL.cons (TL.not (Wt.no rfl rfl rfl hk42) rfl ?_)
  refine TL.cons (TL.not (Wt.no rfl rfl rfl hk42) rfl ?_)
  refine TL.cons (TL.not (Wt.no rfl rfl rfl hk42) rfl ?_)
  refine TL.cons (TL.not (Wt.no rfl rfl rfl hk42) rfl ?_)
  refine TL.cons (TL.not (Wt.no rfl rfl rfl hk42) rfl ?_)
  refine TL.cons (TO.val rfl rfl rfl (Val.pickN rfl hk42 rfl) ?_)
  refine TL.cons (TO.val rfl rfl rfl (Val.move rfl) ?_)
  refine TL.cons (TL.not (Wt.no rfl rfl rfl rfl) rfl ?_)
  refine TL.cons (TL.not (Wt.no rfl rfl rfl rfl) rfl ?_)
  refine TL.cons (TL.not (Wt.no rfl rfl rfl rfl) rfl ?_)
  refine TL.cons (TL.not (Wt.no rfl rfl rfl rfl) rfl ?_)
  refine TL.cons (TL.not (Wt.no rfl rfl rfl rfl) rfl ?_)
  refine TL.cons (TO.val rfl rfl rfl (Val.pickN rfl rfl rfl) ?_)
  refine TL.cons (TO.val rfl rfl rfl (Val.move rfl) ?_)
  refine TL.cons (TL.not (Wt.no rfl rfl rfl rfl) rfl ?_)
  refine TL.cons (TL.not (Wt.no rfl rfl rfl rfl) rfl ?_)
  refine TL.cons (TL.not (Wt.no rfl rfl rfl rfl) rfl ?_)
  refine TL.cons (TL.not (Wt.no rfl rfl rfl rfl) rfl ?_)
  refine TL.cons (TL.not (Wt.no rfl rfl rfl rfl) rfl ?_)
  refine TL.cons (TO.val rfl rfl rfl (Val.pickN rfl rfl rfl) ?_)
  refine TL.cons (TO.val rfl rfl rfl (Val.move rfl) ?_)
  refine TL.cons (TL.not (Wt.no rfl rfl rfl rfl) rfl ?_)
  refine TL.cons (TL.not (Wt.no rfl rfl rfl rfl) rfl ?_)
  refine TL.cons (TL.not (Wt.no rfl rfl rfl rfl) rfl ?_)
  refine TL.cons (TL.not (Wt.no rfl rfl rfl rfl) rfl ?_)
  refine TL.cons (TL.not (Wt.no rfl rfl rfl rfl) rfl ?_)
  refine TL.cons (TO.val rfl rfl rfl (Val.pickN rfl rfl rfl) ?_)
  refine TL.cons (TO.val rfl rfl rfl (Val.move rfl) ?_)
  refine TL.cons (TL.not (Wt.no rfl rfl rfl rfl) rfl ?_)
  refine TL.cons (TL.not (Wt.no rfl rfl rfl rfl) rfl ?_)
  refine TL.cons (TL.not (Wt.no rfl rfl rfl rfl) rfl ?_)
  refine TL.cons (TL.not (Wt.no rfl rfl rfl rfl) rfl ?_)
  refine TL.cons (TL.not (Wt.no rfl rfl rfl rfl) rfl ?_)
  refine TL.cons (TO.val rfl rfl rfl (Val.pickN rfl rfl rfl) ?_)
  refine TL.cons (TO.val rfl rfl rfl (Val.assign rfl) ?_)
  refine TL.nil ?_
  refine TQ.then_ ?_
  refine TC.ret ?_
  obtain rfl := Option.some.inj h
  exact TQ.fin (.inl rfl) rfl Try.results21 (.tmp rfl .nil) rfl (FRel.mk (Ls := []) [] 2 (Gd.le.refl _) rfl rfl rfl ⟨rfl, rfl, rfl⟩)
end Go.Proofs.Ytmacdhkfgoahcaa.Sy
set_option linter.unusedVariables false
set_option linter.unusedSimpArgs false
set_option maxRecDepth 100000
set_option maxHeartbeats 4000000
namespace Go.Proofs.Ytmacdhkfgoahcaa.Sy
open Go Go.RowKit Go.Proofs.YtmacdhkfgoahcaaW.PrintWords Go.Proofs.Ytmacdhkfgoahcaa.Q
def swageref14_Same.l1 (a0 : S36) (a1 : S36) (x2185 : Int) : Nat → Int → Option (Sum (Sum Bool (Unit)) (Unit))
 | 0, _ => none
 | n5638 + 1, x5453 => (at? a0.f1 x2185).bind fun y5822 => (if x5453 < (y5822.f0.length : Int) then (at? y5822.f0 x5453).bind fun y5962 => (at? a1.f1 x2185).bind fun y5975 => (at? y5975.f0 x5453).bind fun y5988 => (swageref14_SameOp.f y5962 y5988).bind fun (y6001 : Bool) => (if (!y6001) = true then some (.inl (.inl false)) else swageref14_Same.l1 a0 a1 x2185 n5638 (IntKind.i64.wrap (x5453 + 1))) else some (.inr ()))
def swageref14_Same.l0 (a0 : S36) (a1 : S36) : Nat → Int → Option (Sum Bool (Unit))
 | 0, _ => none
 | n3270 + 1, x2185 => (if x2185 < (a0.f1.length : Int) then jn (γ := (Sum Bool (Unit))) (fun (x5082 : Bool) => (if x5082 = true then some (.inl false) else (swageref14_Same.l1 a0 a1 x2185 ((at? a0.f1 x2185).elim 0 (fun vy5639 => vy5639.f0.length) + 1) 0).bind fun | .inl q_ => some q_ | .inr _ => (swageref14_Same.l0 a0 a1 n3270 (IntKind.i64.wrap (x2185 + 1))))) (fun (j5083 : (Bool → Option (Sum Bool (Unit)))) => (at? a0.f1 x2185).bind fun y6034 => (at? a1.f1 x2185).bind fun y6047 => (if (!((y6034.f1.f0 == y6047.f1.f0) && ((y6034.f1.f1 == y6047.f1.f1) && ((y6034.f1.f2 == y6047.f1.f2) && (y6034.f1.f3 == y6047.f1.f3))))) = true then j5083 true else j5083 (!decide ((y6034.f0.length : Int) = (y6047.f0.length : Int))))) else some (.inr ()))
def swageref14_Same.f (a0 : S36) (a1 : S36) : Option Bool := jn (γ := Bool) (fun (x14 : Bool) => (if x14 = true then some false else (swageref14_Same.l0 a0 a1 (a0.f1.length + 1) 0).bind fun | .inl q_ => some q_ | .inr _ => (some true))) (fun (j15 : (Bool → Option Bool)) => (if (!decide (a0.f0 = a1.f0)) = true then j15 true else j15 (!decide ((a0.f1.length : Int) = (a1.f1.length : Int)))))
def swageref14_Same.post (G : Gd)  (r : Bool) (v : Value) (G' : Gd) (Lr : List Ch) : Prop := G = G' ∧ v = .bool r ∧ Lr = []
theorem swageref14_Same.calls {G : Gd} {r : Bool} {a0 : S36} {a1 : S36} {A1 : Option Addr} {c2 : Nat} {A5 : Option Addr} {c6 : Nat} (hr3 : Rd G k28 A1 a0.f1) (hl4 : a0.f1.length ≤ c2) (hr7 : Rd G k28 A5 a1.f1) (hl8 : a1.f1.length ≤ c6) (h : swageref14_Same.f a0 a1 = some r) : Fn Try.prog 16 G [] [.agg #[.int .i64 a0.f0, .slice A1 a0.f1.length c2], .agg #[.int .i64 a1.f0, .slice A5 a1.f1.length c6]] (swageref14_Same.post G  r) := by
 refine Fn.intro (e := [(0, .agg #[.int .i64 a0.f0, .slice A1 a0.f1.length c2]), (1, .agg #[.int .i64 a1.f0, .slice A5 a1.f1.length c6])]) 91 Try.func16 rfl Try.ntmps16 rfl rfl (Nat.le_of_ble_eq_true rfl) (fun L => ?_)
 unfold swageref14_Same.f at h
 refine TC.seq ?_
 refine TC.region ?_
 refine TL.cons (TL.box (cs := [.int .i64 a0.f0, .slice A1 a0.f1.length c2]) rfl rfl rfl rfl (fun b9 => ?_))
 refine TL.cons (TL.box (cs := [.int .i64 a1.f0, .slice A5 a1.f1.length c6]) rfl rfl rfl rfl (fun b10 => ?_))
 refine TL.cons (TO.val rfl rfl rfl (Val.assign rfl) ?_)
 refine TL.nil ?_
 refine TQ.then_ ?_
 refine TC.seq ?_
 refine TC.seq ?_
 obtain ⟨j15, hj15, h⟩ := jn_no h
 refine TC.tail (fun a W => ∃ (x14 : Bool), j15 x14 = some r ∧ Fr 91 a [(2, .pointer (some ⟨b9, 0, none⟩)), (3, .pointer (some ⟨b10, 0, none⟩)), (21, .bool x14)] ∧ Own G (Blk b10 [.int .i64 a1.f0, .slice A5 a1.f1.length c6] 36 :: Blk b9 [.int .i64 a0.f0, .slice A1 a0.f1.length c2] 36 :: L) W) ?_ ?_
 ·
  rintro a W ⟨x14, h, hF, hO⟩
  rw [hj15] at h
  refine TQ.use ?_ hF hO
  clear hF hO
  refine TQ.then_ ?_
  refine TC.cond_b rfl h (fun hc17 h => ?_) (fun hc17 h => ?_)
  ·
   refine TC.seq ?_
   refine TC.region ?_
   refine TL.cons (TO.val rfl rfl rfl (Val.assign rfl) ?_)
   refine TL.nil ?_
   refine TQ.then_ ?_
   refine TC.ret ?_
   refine TQ.thenR ?_
   obtain rfl := Option.some.inj h
   exact TQ.fin (.inl rfl) rfl Try.results16 (.tmp rfl .nil) rfl (FRel.mk (Ls := []) [] 2 (Gd.le.refl _) rfl rfl rfl ⟨rfl, rfl, rfl⟩)
  ·
   refine TC.skip ?_
   refine TQ.then_ ?_
   refine TC.seq ?_
   refine TC.seq ?_
   refine TC.region ?_
   refine TL.cons (TO.val rfl rfl rfl (Val.assign rfl) ?_)
   refine TL.nil ?_
   refine TQ.then_ ?_
   obtain ⟨o3269, ho3269, ko3269⟩ := bind_no h
   clear h
   refine TC.tail (fun a W => (.inr ()) = o3269 ∧ Fr 91 a [] ∧ Own G (L) W) ?_ ?_
   ·
    rintro a W ⟨rfl, hF, hO⟩
    have h := ko3269
    clear ko3269 ho3269
    refine TQ.use ?_ hF hO
    clear hF hO
    refine TQ.then_ ?_
    refine TC.seq ?_
    refine TC.region ?_
    refine TL.cons (TO.val rfl rfl rfl (Val.assign rfl) ?_)
    refine TL.nil ?_
    refine TQ.then_ ?_
    refine TC.ret ?_
    obtain rfl := Option.some.inj h
    exact TQ.fin (.inl rfl) rfl Try.results16 (.tmp rfl .nil) rfl (FRel.mk (Ls := []) [] 0 (Gd.le.refl _) rfl rfl rfl ⟨rfl, rfl, rfl⟩)
   ·
    refine TC.block ?_
    intro a W hF hO
    have hS : ∃ (x2185 : Int), swageref14_Same.l0 a0 a1 (a0.f1.length + 1) x2185 = some o3269 ∧ Fr 91 a [(2, .pointer (some ⟨b9, 0, none⟩)), (3, .pointer (some ⟨b10, 0, none⟩)), (5, .int .i64 x2185)] ∧ Own G (Blk b10 [.int .i64 a1.f0, .slice A5 a1.f1.length c6] 36 :: Blk b9 [.int .i64 a0.f0, .slice A1 a0.f1.length c2] 36 :: L) W := by
     exact ⟨0, ho3269, hF.sub ⟨rfl, rfl, rfl, trivial⟩, hO.selT (Ls := [Blk b10 [.int .i64 a1.f0, .slice A5 a1.f1.length c6] 36, Blk b9 [.int .i64 a0.f0, .slice A1 a0.f1.length c2] 36]) [0, 1] 2 rfl rfl rfl⟩
    clear hF hO ho3269
    refine TC.loop (fun n3270 a W => ∃ (x2185 : Int), swageref14_Same.l0 a0 a1 n3270 x2185 = some o3269 ∧ Fr 91 a [(2, .pointer (some ⟨b9, 0, none⟩)), (3, .pointer (some ⟨b10, 0, none⟩)), (5, .int .i64 x2185)] ∧ Own G (Blk b10 [.int .i64 a1.f0, .slice A5 a1.f1.length c6] 36 :: Blk b9 [.int .i64 a0.f0, .slice A1 a0.f1.length c2] 36 :: L) W) ?_ ?_ hS
    ·
     rintro a W ⟨x2185, h, hF, hO⟩
     exact none_no h
    ·
     clear hS
     rintro n3270 a W ⟨x2185, h, hF, hO⟩
     rw [swageref14_Same.l0] at h
     refine TC.use ?_ hF hO
     clear hF hO
     refine TC.seq ?_
     refine TC.seq ?_
     refine TC.region ?_
     refine TL.cons (TO.val rfl rfl rfl (Val.move rfl) ?_)
     refine TL.cons (TO.val rfl rfl rfl (Val.fieldAddrB Try.underlying36 rfl fsz34 rfl rfl rfl) ?_)
     refine TL.cons (TO.val rfl rfl rfl (Val.loadB 1 agg34 rfl rfl rfl) ?_)
     refine TL.cons (TO.val rfl rfl rfl (Val.len Try.underlying34 rfl) ?_)
     refine TL.cons (TO.val rfl rfl rfl (Val.cmp rfl rfl run_lss) ?_)
     refine TL.nil ?_
     refine TQ.then_ ?_
     refine TC.cond_p rfl h (fun hc4355 h => ?_) (fun hc4355 h => ?_)
     ·
      refine TC.skip ?_
      refine TQ.then_ ?_
      refine TC.seq ?_
      refine TC.block ?_
      refine TC.seq ?_
      refine TC.seq ?_
      obtain ⟨j5083, hj5083, h⟩ := jn_no h
      refine TC.tail (fun a W => ∃ (x5082 : Bool), j5083 x5082 = some o3269 ∧ Fr 91 a [(2, .pointer (some ⟨b9, 0, none⟩)), (3, .pointer (some ⟨b10, 0, none⟩)), (5, .int .i64 x2185), (58, .bool x5082)] ∧ Own G (Blk b10 [.int .i64 a1.f0, .slice A5 a1.f1.length c6] 36 :: Blk b9 [.int .i64 a0.f0, .slice A1 a0.f1.length c2] 36 :: L) W) ?_ ?_
      ·
       rintro a W ⟨x5082, h, hF, hO⟩
       rw [hj5083] at h
       refine TQ.use ?_ hF hO
       clear hF hO
       refine TQ.then_ ?_
       refine TC.cond_b rfl h (fun hc5085 h => ?_) (fun hc5085 h => ?_)
       ·
        refine TC.seq ?_
        refine TC.region ?_
        refine TL.cons (TO.val rfl rfl rfl (Val.assign rfl) ?_)
        refine TL.nil ?_
        refine TQ.then_ ?_
        refine TC.ret ?_
        refine TQ.thenR ?_
        refine TQ.inBR ?_
        refine TQ.thenR ?_
        refine TQ.thenR ?_
        refine TQ.inBR ?_
        refine TQ.thenR ?_
        refine TQ.thenR ?_
        obtain rfl := Option.some.inj h
        have h := ko3269
        obtain rfl := Option.some.inj h
        exact TQ.fin (.inl rfl) rfl Try.results16 (.tmp rfl .nil) rfl (FRel.mk (Ls := []) [] 2 (Gd.le.refl _) rfl rfl rfl ⟨rfl, rfl, rfl⟩)
       ·
        refine TC.skip ?_
        refine TQ.then_ ?_
        refine TC.seq ?_
        refine TC.region ?_
        refine TL.cons (TO.val rfl rfl rfl (Val.assign rfl) ?_)
        refine TL.nil ?_
        refine TQ.then_ ?_
        obtain ⟨o5637, ho5637, ko5637⟩ := bind_no h
        clear h
        refine TC.tail (fun a W => (.inr ()) = o5637 ∧ Fr 91 a [(2, .pointer (some ⟨b9, 0, none⟩)), (3, .pointer (some ⟨b10, 0, none⟩)), (5, .int .i64 x2185)] ∧ Own G (Blk b10 [.int .i64 a1.f0, .slice A5 a1.f1.length c6] 36 :: Blk b9 [.int .i64 a0.f0, .slice A1 a0.f1.length c2] 36 :: L) W) ?_ ?_
        ·
         rintro a W ⟨rfl, hF, hO⟩
         have h := ko5637
         clear ko5637 ho5637
         refine TQ.use ?_ hF hO
         clear hF hO
         refine TQ.inB ?_
         refine TQ.then_ ?_
         refine TC.region ?_
         refine TL.cons (TO.val rfl rfl rfl (Val.move rfl) ?_)
         refine TL.cons (TO.val rfl rfl rfl (Val.cmp rfl rfl run_add) ?_)
         refine TL.cons (TO.val rfl rfl rfl (Val.assign rfl) ?_)
         refine TL.nil ?_
         exact fun a W hF hO => ⟨IntKind.i64.wrap (x2185 + 1), h, hF.sub ⟨rfl, rfl, rfl, trivial⟩, hO.selT (Ls := [Blk b10 [.int .i64 a1.f0, .slice A5 a1.f1.length c6] 36, Blk b9 [.int .i64 a0.f0, .slice A1 a0.f1.length c2] 36]) [0, 1] 2 rfl rfl rfl⟩
        ·
         refine TC.block ?_
         intro a W hF hO
         have hS : ∃ (x5453 : Int), swageref14_Same.l1 a0 a1 x2185 ((at? a0.f1 x2185).elim 0 (fun vy5639 => vy5639.f0.length) + 1) x5453 = some o5637 ∧ Fr 91 a [(2, .pointer (some ⟨b9, 0, none⟩)), (3, .pointer (some ⟨b10, 0, none⟩)), (5, .int .i64 x2185), (6, .int .i64 x5453)] ∧ Own G (Blk b10 [.int .i64 a1.f0, .slice A5 a1.f1.length c6] 36 :: Blk b9 [.int .i64 a0.f0, .slice A1 a0.f1.length c2] 36 :: L) W := by
          exact ⟨0, ho5637, hF.sub ⟨rfl, rfl, rfl, rfl, trivial⟩, hO.selT (Ls := [Blk b10 [.int .i64 a1.f0, .slice A5 a1.f1.length c6] 36, Blk b9 [.int .i64 a0.f0, .slice A1 a0.f1.length c2] 36]) [0, 1] 2 rfl rfl rfl⟩
         clear hF hO ho5637
         refine TC.loop (fun n5638 a W => ∃ (x5453 : Int), swageref14_Same.l1 a0 a1 x2185 n5638 x5453 = some o5637 ∧ Fr 91 a [(2, .pointer (some ⟨b9, 0, none⟩)), (3, .pointer (some ⟨b10, 0, none⟩)), (5, .int .i64 x2185), (6, .int .i64 x5453)] ∧ Own G (Blk b10 [.int .i64 a1.f0, .slice A5 a1.f1.length c6] 36 :: Blk b9 [.int .i64 a0.f0, .slice A1 a0.f1.length c2] 36 :: L) W) ?_ ?_ hS
         ·
          rintro a W ⟨x5453, h, hF, hO⟩
          exact none_no h
         ·
          clear hS
          rintro n5638 a W ⟨x5453, h, hF, hO⟩
          rw [swageref14_Same.l1] at h
          refine TC.use ?_ hF hO
          clear hF hO
          refine TC.seq ?_
          refine TC.seq ?_
          refine TC.region ?_
          refine TL.cons (TO.val rfl rfl rfl (Val.move rfl) ?_)
          refine TL.cons (TO.val rfl rfl rfl (Val.fieldAddrB Try.underlying36 rfl fsz34 rfl rfl rfl) ?_)
          refine TL.cons (TO.val rfl rfl rfl (Val.loadB 1 agg34 rfl rfl rfl) ?_)
          refine TL.cons (TO.val rfl rfl rfl (Val.move rfl) ?_)
          obtain ⟨y5822, hx5823, h⟩ := bind_no h
          obtain ⟨ad5824, cs5830, hA5825, hi5826, hj5827, hcl5828, hK5829⟩ := Rd.at hr3 hx5823
          obtain ⟨A5831, c5832, rfl, hr5833, hl5834⟩ := k28_openR hK5829
          refine TL.cons (TO.val rfl rfl rfl (Val.indexAddr Try.underlying34 fsz28 rfl hA5825 rfl hi5826 hj5827) ?_)
          refine TL.cons (TO.val rfl rfl rfl (Val.fieldAddrE Try.underlying28 rfl fsz26 rfl rfl) ?_)
          refine TL.cons (TO.val rfl rfl rfl (Val.loadS agg26 rfl (hcl5828 0 _ rfl)) ?_)
          refine TL.cons (TO.val rfl rfl rfl (Val.len Try.underlying26 rfl) ?_)
          refine TL.cons (TO.val rfl rfl rfl (Val.cmp rfl rfl run_lss) ?_)
          refine TL.nil ?_
          refine TQ.then_ ?_
          refine TC.cond_p rfl h (fun hc5836 h => ?_) (fun hc5836 h => ?_)
          ·
           refine TC.skip ?_
           refine TQ.then_ ?_
           refine TC.seq ?_
           refine TC.block ?_
           refine TC.seq ?_
           refine TC.regionAny [] [0, 1, 2, 3, 4, 5, 6, 7, 8, 9, 10, 11, 12, 13, 14, 15, 16, 17, 19] mixed (by kernel_rfl) ?_
           refine TA.take 0 rfl (by kernel_rfl) rfl (PQ.then_ (PQ.inB (PQ.then_ (PQ.then_ (PQ.inB (PQ.then_ (PQ.inB (PQ.then_ (PQ.then_ (PQ.inB (PQ.then_ (PQ.then_ PQ.body)))))))))))) rfl (Val.fieldAddrB Try.underlying36 rfl fsz34 rfl rfl rfl) (fun W hO => hO) ?_
           refine TA.take 1 rfl (by kernel_rfl) rfl (PQ.then_ (PQ.inB (PQ.then_ (PQ.then_ (PQ.inB (PQ.then_ (PQ.inB (PQ.then_ (PQ.then_ (PQ.inB (PQ.then_ (PQ.then_ PQ.body)))))))))))) rfl (Val.loadB 1 agg34 rfl rfl rfl) (fun W hO => hO) ?_
           refine TA.take 2 rfl (by kernel_rfl) rfl (PQ.then_ (PQ.inB (PQ.then_ (PQ.then_ (PQ.inB (PQ.then_ (PQ.inB (PQ.then_ (PQ.then_ (PQ.inB (PQ.then_ (PQ.then_ PQ.body)))))))))))) rfl (Val.move rfl) (fun W hO => hO) ?_
           refine TA.take 3 rfl (by kernel_rfl) rfl (PQ.then_ (PQ.inB (PQ.then_ (PQ.then_ (PQ.inB (PQ.then_ (PQ.inB (PQ.then_ (PQ.then_ (PQ.inB (PQ.then_ (PQ.then_ PQ.body)))))))))))) rfl (Val.indexAddr Try.underlying34 fsz28 rfl hA5825 rfl hi5826 hj5827) (fun W hO => hO) ?_
           refine TA.take 4 rfl (by kernel_rfl) rfl (PQ.then_ (PQ.inB (PQ.then_ (PQ.then_ (PQ.inB (PQ.then_ (PQ.inB (PQ.then_ (PQ.then_ (PQ.inB (PQ.then_ (PQ.then_ PQ.body)))))))))))) rfl (Val.fieldAddrE Try.underlying28 rfl fsz26 rfl rfl) (fun W hO => hO) ?_
           refine TA.take 5 rfl (by kernel_rfl) rfl (PQ.then_ (PQ.inB (PQ.then_ (PQ.then_ (PQ.inB (PQ.then_ (PQ.inB (PQ.then_ (PQ.then_ (PQ.inB (PQ.then_ (PQ.then_ PQ.body)))))))))))) rfl (Val.loadS agg26 rfl (hcl5828 0 _ rfl)) (fun W hO => hO) ?_
           refine TA.take 6 rfl (by kernel_rfl) rfl (PQ.then_ (PQ.inB (PQ.then_ (PQ.then_ (PQ.inB (PQ.then_ (PQ.inB (PQ.then_ (PQ.then_ (PQ.inB (PQ.then_ (PQ.then_ PQ.body)))))))))))) rfl (Val.move rfl) (fun W hO => hO) ?_
           obtain ⟨y5962, hx5963, h⟩ := bind_no h
           obtain ⟨ad5964, cs5970, hA5965, hi5966, hj5967, hcl5968, hK5969⟩ := Rd.at hr5833 hx5963
           obtain ⟨A5971, c5972, rfl, hr5973, hl5974⟩ := k30_openR hK5969
           refine TA.take 7 rfl (by kernel_rfl) rfl (PQ.then_ (PQ.inB (PQ.then_ (PQ.then_ (PQ.inB (PQ.then_ (PQ.inB (PQ.then_ (PQ.then_ (PQ.inB (PQ.then_ (PQ.then_ PQ.body)))))))))))) rfl (Val.indexAddr Try.underlying26 fsz30 rfl hA5965 rfl hi5966 hj5967) (fun W hO => hO) ?_
           refine TA.take 8 rfl (by kernel_rfl) rfl (PQ.then_ (PQ.inB (PQ.then_ (PQ.then_ (PQ.inB (PQ.then_ (PQ.inB (PQ.then_ (PQ.then_ (PQ.inB (PQ.then_ (PQ.then_ PQ.body)))))))))))) rfl (Val.loadsS (cs := [.int .i64 y5962.f0, .int .i64 y5962.f1, .int .i64 y5962.f2, .int .i64 y5962.f3, .int .i64 y5962.f4, .slice A5971 y5962.f5.length c5972]) agg30 fsz30 rfl rfl (Cl.sub (off := 0) (n := 6) hcl5968 rfl)) (fun W hO => hO) ?_
           refine TA.take 9 rfl (by kernel_rfl) rfl (PQ.then_ (PQ.inB (PQ.then_ (PQ.then_ (PQ.inB (PQ.then_ (PQ.inB (PQ.then_ (PQ.then_ (PQ.inB (PQ.then_ (PQ.then_ PQ.body)))))))))))) rfl (Val.fieldAddrB Try.underlying36 rfl fsz34 rfl rfl rfl) (fun W hO => hO) ?_
           refine TA.take 10 rfl (by kernel_rfl) rfl (PQ.then_ (PQ.inB (PQ.then_ (PQ.then_ (PQ.inB (PQ.then_ (PQ.inB (PQ.then_ (PQ.then_ (PQ.inB (PQ.then_ (PQ.then_ PQ.body)))))))))))) rfl (Val.loadB 0 agg34 rfl rfl rfl) (fun W hO => hO) ?_
           refine TA.take 11 rfl (by kernel_rfl) rfl (PQ.then_ (PQ.inB (PQ.then_ (PQ.then_ (PQ.inB (PQ.then_ (PQ.inB (PQ.then_ (PQ.then_ (PQ.inB (PQ.then_ (PQ.then_ PQ.body)))))))))))) rfl (Val.move rfl) (fun W hO => hO) ?_
           obtain ⟨y5975, hx5976, h⟩ := bind_no h
           obtain ⟨ad5977, cs5983, hA5978, hi5979, hj5980, hcl5981, hK5982⟩ := Rd.at hr7 hx5976
           obtain ⟨A5984, c5985, rfl, hr5986, hl5987⟩ := k28_openR hK5982
           refine TA.take 12 rfl (by kernel_rfl) rfl (PQ.then_ (PQ.inB (PQ.then_ (PQ.then_ (PQ.inB (PQ.then_ (PQ.inB (PQ.then_ (PQ.then_ (PQ.inB (PQ.then_ (PQ.then_ PQ.body)))))))))))) rfl (Val.indexAddr Try.underlying34 fsz28 rfl hA5978 rfl hi5979 hj5980) (fun W hO => hO) ?_
           refine TA.take 13 rfl (by kernel_rfl) rfl (PQ.then_ (PQ.inB (PQ.then_ (PQ.then_ (PQ.inB (PQ.then_ (PQ.inB (PQ.then_ (PQ.then_ (PQ.inB (PQ.then_ (PQ.then_ PQ.body)))))))))))) rfl (Val.fieldAddrE Try.underlying28 rfl fsz26 rfl rfl) (fun W hO => hO) ?_
           refine TA.take 14 rfl (by kernel_rfl) rfl (PQ.then_ (PQ.inB (PQ.then_ (PQ.then_ (PQ.inB (PQ.then_ (PQ.inB (PQ.then_ (PQ.then_ (PQ.inB (PQ.then_ (PQ.then_ PQ.body)))))))))))) rfl (Val.loadS agg26 rfl (hcl5981 0 _ rfl)) (fun W hO => hO) ?_
           refine TA.take 15 rfl (by kernel_rfl) rfl (PQ.then_ (PQ.inB (PQ.then_ (PQ.then_ (PQ.inB (PQ.then_ (PQ.inB (PQ.then_ (PQ.then_ (PQ.inB (PQ.then_ (PQ.then_ PQ.body)))))))))))) rfl (Val.move rfl) (fun W hO => hO) ?_
           obtain ⟨y5988, hx5989, h⟩ := bind_no h
           obtain ⟨ad5990, cs5996, hA5991, hi5992, hj5993, hcl5994, hK5995⟩ := Rd.at hr5986 hx5989
           obtain ⟨A5997, c5998, rfl, hr5999, hl6000⟩ := k30_openR hK5995
           refine TA.take 16 rfl (by kernel_rfl) rfl (PQ.then_ (PQ.inB (PQ.then_ (PQ.then_ (PQ.inB (PQ.then_ (PQ.inB (PQ.then_ (PQ.then_ (PQ.inB (PQ.then_ (PQ.then_ PQ.body)))))))))))) rfl (Val.indexAddr Try.underlying26 fsz30 rfl hA5991 rfl hi5992 hj5993) (fun W hO => hO) ?_
           refine TA.take 17 rfl (by kernel_rfl) rfl (PQ.then_ (PQ.inB (PQ.then_ (PQ.then_ (PQ.inB (PQ.then_ (PQ.inB (PQ.then_ (PQ.then_ (PQ.inB (PQ.then_ (PQ.then_ PQ.body)))))))))))) rfl (Val.loadsS (cs := [.int .i64 y5988.f0, .int .i64 y5988.f1, .int .i64 y5988.f2, .int .i64 y5988.f3, .int .i64 y5988.f4, .slice A5997 y5988.f5.length c5998]) agg30 fsz30 rfl rfl (Cl.sub (off := 0) (n := 6) hcl5994 rfl)) (fun W hO => hO) ?_
           obtain ⟨y6001, hy6002, h⟩ := bind_no h
           refine TA.eff 18 rfl (by kernel_rfl) rfl (TL.callV (Lin := []) (args := [.agg #[.int .i64 y5962.f0, .int .i64 y5962.f1, .int .i64 y5962.f2, .int .i64 y5962.f3, .int .i64 y5962.f4, .slice A5971 y5962.f5.length c5972], .agg #[.int .i64 y5988.f0, .int .i64 y5988.f1, .int .i64 y5988.f2, .int .i64 y5988.f3, .int .i64 y5988.f4, .slice A5997 y5988.f5.length c5998]]) rfl rfl rfl hbd21 rfl rfl (swageref14_SameOp.calls (a0 := y5962) (a1 := y5988) hr5973 hl5974 hr5999 hl6000 hy6002) rfl ?_)
           rintro _ _ _ _ ⟨rfl, rfl, rfl⟩
           refine TA.next (fun W hO => hO) ?_
           refine TA.take 19 rfl (by kernel_rfl) rfl (PQ.then_ (PQ.inB (PQ.then_ (PQ.then_ (PQ.inB (PQ.then_ (PQ.inB (PQ.then_ (PQ.then_ (PQ.inB (PQ.then_ (PQ.then_ PQ.body)))))))))))) rfl (Val.assign rfl) (fun W hO => hO) ?_
           refine TA.done (by kernel_rfl) ?_
           refine TQ.then_ ?_
           refine TC.seq ?_
           refine TC.region ?_
           refine TL.cons (TO.val rfl rfl rfl (Val.move rfl) ?_)
           refine TL.cons (TO.val rfl rfl rfl (Val.not_ rfl) ?_)
           refine TL.nil ?_
           refine TQ.then_ ?_
           refine TC.cond_b rfl h (fun hc6004 h => ?_) (fun hc6004 h => ?_)
           ·
            refine TC.seq ?_
            refine TC.region ?_
            refine TL.cons (TO.val rfl rfl rfl (Val.assign rfl) ?_)
            refine TL.nil ?_
            refine TQ.then_ ?_
            refine TC.ret ?_
            refine TQ.inBR ?_
            refine TQ.thenR ?_
            refine TQ.thenR ?_
            refine TQ.inBR ?_
            refine TQ.thenR ?_
            refine TQ.inBR ?_
            refine TQ.thenR ?_
            refine TQ.thenR ?_
            refine TQ.inBR ?_
            refine TQ.thenR ?_
            refine TQ.thenR ?_
            obtain rfl := Option.some.inj h
            have h := ko5637
            obtain rfl := Option.some.inj h
            have h := ko3269
            obtain rfl := Option.some.inj h
            exact TQ.fin (.inl rfl) rfl Try.results16 (.tmp rfl .nil) rfl (FRel.mk (Ls := []) [] 2 (Gd.le.refl _) rfl rfl rfl ⟨rfl, rfl, rfl⟩)
           ·
            refine TC.skip ?_
            refine TQ.inB ?_
            refine TQ.then_ ?_
            refine TC.region ?_
            refine TL.cons (TO.val rfl rfl rfl (Val.move rfl) ?_)
            refine TL.cons (TO.val rfl rfl rfl (Val.cmp rfl rfl run_add) ?_)
            refine TL.cons (TO.val rfl rfl rfl (Val.assign rfl) ?_)
            refine TL.nil ?_
            exact fun a W hF hO => ⟨IntKind.i64.wrap (x5453 + 1), h, hF.sub ⟨rfl, rfl, rfl, rfl, trivial⟩, hO.selT (Ls := [Blk b10 [.int .i64 a1.f0, .slice A5 a1.f1.length c6] 36, Blk b9 [.int .i64 a0.f0, .slice A1 a0.f1.length c2] 36]) [0, 1] 2 rfl rfl rfl⟩
          ·
           refine TC.exit ?_
           refine TQ.thenX ?_
           refine TQ.thenX ?_
           refine TQ.inBX ?_
           exact fun a W hF hO => ⟨Option.some.inj h, hF.sub ⟨rfl, rfl, rfl, trivial⟩, hO.selT (Ls := [Blk b10 [.int .i64 a1.f0, .slice A5 a1.f1.length c6] 36, Blk b9 [.int .i64 a0.f0, .slice A1 a0.f1.length c2] 36]) [0, 1] 2 rfl rfl rfl⟩
      ·
       refine TC.regionAny [] [0, 1, 2, 3, 4, 5, 6, 7, 8, 9, 10, 11, 12, 13, 14, 15, 16, 17, 18, 19, 20, 21, 22, 23, 24, 25, 26, 27, 28, 29] mixed (by kernel_rfl) ?_
       refine TA.take 0 rfl (by kernel_rfl) rfl (PQ.then_ (PQ.then_ (PQ.then_ (PQ.inB (PQ.then_ (PQ.then_ (PQ.inB (PQ.then_ (PQ.then_ PQ.body))))))))) rfl (Val.fieldAddrB Try.underlying36 rfl fsz34 rfl rfl rfl) (fun W hO => hO) ?_
       refine TA.take 1 rfl (by kernel_rfl) rfl (PQ.then_ (PQ.then_ (PQ.then_ (PQ.inB (PQ.then_ (PQ.then_ (PQ.inB (PQ.then_ (PQ.then_ PQ.body))))))))) rfl (Val.loadB 1 agg34 rfl rfl rfl) (fun W hO => hO) ?_
       refine TA.take 2 rfl (by kernel_rfl) rfl (PQ.then_ (PQ.then_ (PQ.then_ (PQ.inB (PQ.then_ (PQ.then_ (PQ.inB (PQ.then_ (PQ.then_ PQ.body))))))))) rfl (Val.move rfl) (fun W hO => hO) ?_
       obtain ⟨y6034, hx6035, h⟩ := bind_no h
       obtain ⟨ad6036, cs6042, hA6037, hi6038, hj6039, hcl6040, hK6041⟩ := Rd.at hr3 hx6035
       obtain ⟨A6043, c6044, rfl, hr6045, hl6046⟩ := k28_openR hK6041
       refine TA.take 3 rfl (by kernel_rfl) rfl (PQ.then_ (PQ.then_ (PQ.then_ (PQ.inB (PQ.then_ (PQ.then_ (PQ.inB (PQ.then_ (PQ.then_ PQ.body))))))))) rfl (Val.indexAddr Try.underlying34 fsz28 rfl hA6037 rfl hi6038 hj6039) (fun W hO => hO) ?_
       refine TA.take 4 rfl (by kernel_rfl) rfl (PQ.then_ (PQ.then_ (PQ.then_ (PQ.inB (PQ.then_ (PQ.then_ (PQ.inB (PQ.then_ (PQ.then_ PQ.body))))))))) rfl (Val.fieldAddrE Try.underlying28 rfl fsz25 rfl rfl) (fun W hO => hO) ?_
       refine TA.take 5 rfl (by kernel_rfl) rfl (PQ.then_ (PQ.then_ (PQ.then_ (PQ.inB (PQ.then_ (PQ.then_ (PQ.inB (PQ.then_ (PQ.then_ PQ.body))))))))) rfl (Val.loadsS (cs := [.int .i64 y6034.f1.f0, .int .i64 y6034.f1.f1, .int .i64 y6034.f1.f2, .int .i64 y6034.f1.f3]) agg25 fsz25 rfl rfl (Cl.sub (off := 1) (n := 4) hcl6040 rfl)) (fun W hO => hO) ?_
       refine TA.take 6 rfl (by kernel_rfl) rfl (PQ.then_ (PQ.then_ (PQ.then_ (PQ.inB (PQ.then_ (PQ.then_ (PQ.inB (PQ.then_ (PQ.then_ PQ.body))))))))) rfl (Val.fieldAddrB Try.underlying36 rfl fsz34 rfl rfl rfl) (fun W hO => hO) ?_
       refine TA.take 7 rfl (by kernel_rfl) rfl (PQ.then_ (PQ.then_ (PQ.then_ (PQ.inB (PQ.then_ (PQ.then_ (PQ.inB (PQ.then_ (PQ.then_ PQ.body))))))))) rfl (Val.loadB 0 agg34 rfl rfl rfl) (fun W hO => hO) ?_
       refine TA.take 8 rfl (by kernel_rfl) rfl (PQ.then_ (PQ.then_ (PQ.then_ (PQ.inB (PQ.then_ (PQ.then_ (PQ.inB (PQ.then_ (PQ.then_ PQ.body))))))))) rfl (Val.move rfl) (fun W hO => hO) ?_
       obtain ⟨y6047, hx6048, h⟩ := bind_no h
       obtain ⟨ad6049, cs6055, hA6050, hi6051, hj6052, hcl6053, hK6054⟩ := Rd.at hr7 hx6048
       obtain ⟨A6056, c6057, rfl, hr6058, hl6059⟩ := k28_openR hK6054
       refine TA.take 9 rfl (by kernel_rfl) rfl (PQ.then_ (PQ.then_ (PQ.then_ (PQ.inB (PQ.then_ (PQ.then_ (PQ.inB (PQ.then_ (PQ.then_ PQ.body))))))))) rfl (Val.indexAddr Try.underlying34 fsz28 rfl hA6050 rfl hi6051 hj6052) (fun W hO => hO) ?_
       refine TA.take 10 rfl (by kernel_rfl) rfl (PQ.then_ (PQ.then_ (PQ.then_ (PQ.inB (PQ.then_ (PQ.then_ (PQ.inB (PQ.then_ (PQ.then_ PQ.body))))))))) rfl (Val.fieldAddrE Try.underlying28 rfl fsz25 rfl rfl) (fun W hO => hO) ?_
       refine TA.take 11 rfl (by kernel_rfl) rfl (PQ.then_ (PQ.then_ (PQ.then_ (PQ.inB (PQ.then_ (PQ.then_ (PQ.inB (PQ.then_ (PQ.then_ PQ.body))))))))) rfl (Val.loadsS (cs := [.int .i64 y6047.f1.f0, .int .i64 y6047.f1.f1, .int .i64 y6047.f1.f2, .int .i64 y6047.f1.f3]) agg25 fsz25 rfl rfl (Cl.sub (off := 1) (n := 4) hcl6053 rfl)) (fun W hO => hO) ?_
       refine TA.take 12 rfl (by kernel_rfl) rfl (PQ.then_ (PQ.then_ (PQ.then_ (PQ.inB (PQ.then_ (PQ.then_ (PQ.inB (PQ.then_ (PQ.then_ PQ.body))))))))) rfl (Val.neA eqg25 rfl rfl (fun W => eqs25 9998 W _ _ _ _ _ _ _ _)) (fun W hO => hO) ?_
       refine TA.take 13 rfl (by kernel_rfl) rfl (PQ.then_ (PQ.then_ (PQ.then_ (PQ.inB (PQ.then_ (PQ.then_ (PQ.inB (PQ.then_ (PQ.then_ PQ.body))))))))) rfl (Val.move rfl) (fun W hO => hO) ?_
       refine TK.split (p := (!((y6034.f1.f0 == y6047.f1.f0) && ((y6034.f1.f1 == y6047.f1.f1) && ((y6034.f1.f2 == y6047.f1.f2) && (y6034.f1.f3 == y6047.f1.f3))))) = true) h (fun hg6060 h => ?_) (fun hg6060 h => ?_)
       ·
        have hk6061 : (!((y6034.f1.f0 == y6047.f1.f0) && ((y6034.f1.f1 == y6047.f1.f1) && ((y6034.f1.f2 == y6047.f1.f2) && (y6034.f1.f3 == y6047.f1.f3))))) = true := hg6060
        refine TA.not 14 rfl (by kernel_rfl) rfl (PQ.then_ (PQ.then_ (PQ.then_ (PQ.inB (PQ.then_ (PQ.then_ (PQ.inB (PQ.then_ (PQ.then_ PQ.body))))))))) (Wt.no rfl rfl rfl hk6061) (fun W hO => hO) ?_
        refine TA.not 15 rfl (by kernel_rfl) rfl (PQ.then_ (PQ.then_ (PQ.then_ (PQ.inB (PQ.then_ (PQ.then_ (PQ.inB (PQ.then_ (PQ.then_ PQ.body))))))))) (Wt.no rfl rfl rfl hk6061) (fun W hO => hO) ?_
        refine TA.not 16 rfl (by kernel_rfl) rfl (PQ.then_ (PQ.then_ (PQ.then_ (PQ.inB (PQ.then_ (PQ.then_ (PQ.inB (PQ.then_ (PQ.then_ PQ.body))))))))) (Wt.no rfl rfl rfl hk6061) (fun W hO => hO) ?_
        refine TA.not 17 rfl (by kernel_rfl) rfl (PQ.then_ (PQ.then_ (PQ.then_ (PQ.inB (PQ.then_ (PQ.then_ (PQ.inB (PQ.then_ (PQ.then_ PQ.body))))))))) (Wt.no rfl rfl rfl hk6061) (fun W hO => hO) ?_
        refine TA.not 18 rfl (by kernel_rfl) rfl (PQ.then_ (PQ.then_ (PQ.then_ (PQ.inB (PQ.then_ (PQ.then_ (PQ.inB (PQ.then_ (PQ.then_ PQ.body))))))))) (Wt.no rfl rfl rfl hk6061) (fun W hO => hO) ?_
        refine TA.not 19 rfl (by kernel_rfl) rfl (PQ.then_ (PQ.then_ (PQ.then_ (PQ.inB (PQ.then_ (PQ.then_ (PQ.inB (PQ.then_ (PQ.then_ PQ.body))))))))) (Wt.no rfl rfl rfl hk6061) (fun W hO => hO) ?_
        refine TA.not 20 rfl (by kernel_rfl) rfl (PQ.then_ (PQ.then_ (PQ.then_ (PQ.inB (PQ.then_ (PQ.then_ (PQ.inB (PQ.then_ (PQ.then_ PQ.body))))))))) (Wt.no rfl rfl rfl hk6061) (fun W hO => hO) ?_
        refine TA.not 21 rfl (by kernel_rfl) rfl (PQ.then_ (PQ.then_ (PQ.then_ (PQ.inB (PQ.then_ (PQ.then_ (PQ.inB (PQ.then_ (PQ.then_ PQ.body))))))))) (Wt.no rfl rfl rfl hk6061) (fun W hO => hO) ?_
        refine TA.not 22 rfl (by kernel_rfl) rfl (PQ.then_ (PQ.then_ (PQ.then_ (PQ.inB (PQ.then_ (PQ.then_ (PQ.inB (PQ.then_ (PQ.then_ PQ.body))))))))) (Wt.no rfl rfl rfl hk6061) (fun W hO => hO) ?_
        refine TA.not 23 rfl (by kernel_rfl) rfl (PQ.then_ (PQ.then_ (PQ.then_ (PQ.inB (PQ.then_ (PQ.then_ (PQ.inB (PQ.then_ (PQ.then_ PQ.body))))))))) (Wt.no rfl rfl rfl hk6061) (fun W hO => hO) ?_
        refine TA.not 24 rfl (by kernel_rfl) rfl (PQ.then_ (PQ.then_ (PQ.then_ (PQ.inB (PQ.then_ (PQ.then_ (PQ.inB (PQ.then_ (PQ.then_ PQ.body))))))))) (Wt.no rfl rfl rfl hk6061) (fun W hO => hO) ?_
        refine TA.not 25 rfl (by kernel_rfl) rfl (PQ.then_ (PQ.then_ (PQ.then_ (PQ.inB (PQ.then_ (PQ.then_ (PQ.inB (PQ.then_ (PQ.then_ PQ.body))))))))) (Wt.no rfl rfl rfl hk6061) (fun W hO => hO) ?_
        refine TA.not 26 rfl (by kernel_rfl) rfl (PQ.then_ (PQ.then_ (PQ.then_ (PQ.inB (PQ.then_ (PQ.then_ (PQ.inB (PQ.then_ (PQ.then_ PQ.body))))))))) (Wt.no rfl rfl rfl hk6061) (fun W hO => hO) ?_
        refine TA.not 27 rfl (by kernel_rfl) rfl (PQ.then_ (PQ.then_ (PQ.then_ (PQ.inB (PQ.then_ (PQ.then_ (PQ.inB (PQ.then_ (PQ.then_ PQ.body))))))))) (Wt.no rfl rfl rfl hk6061) (fun W hO => hO) ?_
        refine TA.not 28 rfl (by kernel_rfl) rfl (PQ.then_ (PQ.then_ (PQ.then_ (PQ.inB (PQ.then_ (PQ.then_ (PQ.inB (PQ.then_ (PQ.then_ PQ.body))))))))) (Wt.no rfl rfl rfl hk6061) (fun W hO => hO) ?_
        refine TA.take 29 rfl (by kernel_rfl) rfl (PQ.then_ (PQ.then_ (PQ.then_ (PQ.inB (PQ.then_ (PQ.then_ (PQ.inB (PQ.then_ (PQ.then_ PQ.body))))))))) rfl (Val.pickY rfl hk6061 rfl) (fun W hO => hO) ?_
        refine TA.done (by kernel_rfl) ?_
        exact fun a W hF hO => ⟨true, h, hF.sub ⟨rfl, rfl, rfl, rfl, trivial⟩, hO.selT (Ls := [Blk b10 [.int .i64 a1.f0, .slice A5 a1.f1.length c6] 36, Blk b9 [.int .i64 a0.f0, .slice A1 a0.f1.length c2] 36]) [0, 1] 2 rfl rfl rfl⟩
       ·
        have hk6062 : (!((y6034.f1.f0 == y6047.f1.f0) && ((y6034.f1.f1 == y6047.f1.f1) && ((y6034.f1.f2 == y6047.f1.f2) && (y6034.f1.f3 == y6047.f1.f3))))) = false := (by simpa using hg6060)
        refine TA.take 14 rfl (by kernel_rfl) rfl (PQ.then_ (PQ.then_ (PQ.then_ (PQ.inB (PQ.then_ (PQ.then_ (PQ.inB (PQ.then_ (PQ.then_ PQ.body))))))))) (Wt.yes rfl rfl rfl hk6062) (Val.fieldAddrB Try.underlying36 rfl fsz34 rfl rfl rfl) (fun W hO => hO) ?_
        refine TA.take 15 rfl (by kernel_rfl) rfl (PQ.then_ (PQ.then_ (PQ.then_ (PQ.inB (PQ.then_ (PQ.then_ (PQ.inB (PQ.then_ (PQ.then_ PQ.body))))))))) (Wt.yes rfl rfl rfl hk6062) (Val.loadB 1 agg34 rfl rfl rfl) (fun W hO => hO) ?_
        refine TA.take 16 rfl (by kernel_rfl) rfl (PQ.then_ (PQ.then_ (PQ.then_ (PQ.inB (PQ.then_ (PQ.then_ (PQ.inB (PQ.then_ (PQ.then_ PQ.body))))))))) (Wt.yes rfl rfl rfl hk6062) (Val.move rfl) (fun W hO => hO) ?_
        refine TA.take 17 rfl (by kernel_rfl) rfl (PQ.then_ (PQ.then_ (PQ.then_ (PQ.inB (PQ.then_ (PQ.then_ (PQ.inB (PQ.then_ (PQ.then_ PQ.body))))))))) (Wt.yes rfl rfl rfl hk6062) (Val.indexAddr Try.underlying34 fsz28 rfl hA6037 rfl hi6038 hj6039) (fun W hO => hO) ?_
        refine TA.take 18 rfl (by kernel_rfl) rfl (PQ.then_ (PQ.then_ (PQ.then_ (PQ.inB (PQ.then_ (PQ.then_ (PQ.inB (PQ.then_ (PQ.then_ PQ.body))))))))) (Wt.yes rfl rfl rfl hk6062) (Val.fieldAddrE Try.underlying28 rfl fsz26 rfl rfl) (fun W hO => hO) ?_
        refine TA.take 19 rfl (by kernel_rfl) rfl (PQ.then_ (PQ.then_ (PQ.then_ (PQ.inB (PQ.then_ (PQ.then_ (PQ.inB (PQ.then_ (PQ.then_ PQ.body))))))))) (Wt.yes rfl rfl rfl hk6062) (Val.loadS agg26 rfl (hcl6040 0 _ rfl)) (fun W hO => hO) ?_
        refine TA.take 20 rfl (by kernel_rfl) rfl (PQ.then_ (PQ.then_ (PQ.then_ (PQ.inB (PQ.then_ (PQ.then_ (PQ.inB (PQ.then_ (PQ.then_ PQ.body))))))))) (Wt.yes rfl rfl rfl hk6062) (Val.len Try.underlying26 rfl) (fun W hO => hO) ?_
        refine TA.take 21 rfl (by kernel_rfl) rfl (PQ.then_ (PQ.then_ (PQ.then_ (PQ.inB (PQ.then_ (PQ.then_ (PQ.inB (PQ.then_ (PQ.then_ PQ.body))))))))) (Wt.yes rfl rfl rfl hk6062) (Val.fieldAddrB Try.underlying36 rfl fsz34 rfl rfl rfl) (fun W hO => hO) ?_
        refine TA.take 22 rfl (by kernel_rfl) rfl (PQ.then_ (PQ.then_ (PQ.then_ (PQ.inB (PQ.then_ (PQ.then_ (PQ.inB (PQ.then_ (PQ.then_ PQ.body))))))))) (Wt.yes rfl rfl rfl hk6062) (Val.loadB 0 agg34 rfl rfl rfl) (fun W hO => hO) ?_
        refine TA.take 23 rfl (by kernel_rfl) rfl (PQ.then_ (PQ.then_ (PQ.then_ (PQ.inB (PQ.then_ (PQ.then_ (PQ.inB (PQ.then_ (PQ.then_ PQ.body))))))))) (Wt.yes rfl rfl rfl hk6062) (Val.move rfl) (fun W hO => hO) ?_
        refine TA.take 24 rfl (by kernel_rfl) rfl (PQ.then_ (PQ.then_ (PQ.then_ (PQ.inB (PQ.then_ (PQ.then_ (PQ.inB (PQ.then_ (PQ.then_ PQ.body))))))))) (Wt.yes rfl rfl rfl hk6062) (Val.indexAddr Try.underlying34 fsz28 rfl hA6050 rfl hi6051 hj6052) (fun W hO => hO) ?_
        refine TA.take 25 rfl (by kernel_rfl) rfl (PQ.then_ (PQ.then_ (PQ.then_ (PQ.inB (PQ.then_ (PQ.then_ (PQ.inB (PQ.then_ (PQ.then_ PQ.body))))))))) (Wt.yes rfl rfl rfl hk6062) (Val.fieldAddrE Try.underlying28 rfl fsz26 rfl rfl) (fun W hO => hO) ?_
        refine TA.take 26 rfl (by kernel_rfl) rfl (PQ.then_ (PQ.then_ (PQ.then_ (PQ.inB (PQ.then_ (PQ.then_ (PQ.inB (PQ.then_ (PQ.then_ PQ.body))))))))) (Wt.yes rfl rfl rfl hk6062) (Val.loadS agg26 rfl (hcl6053 0 _ rfl)) (fun W hO => hO) ?_
        refine TA.take 27 rfl (by kernel_rfl) rfl (PQ.then_ (PQ.then_ (PQ.then_ (PQ.inB (PQ.then_ (PQ.then_ (PQ.inB (PQ.then_ (PQ.then_ PQ.body))))))))) (Wt.yes rfl rfl rfl hk6062) (Val.len Try.underlying26 rfl) (fun W hO => hO) ?_
        refine TA.take 28 rfl (by kernel_rfl) rfl (PQ.then_ (PQ.then_ (PQ.then_ (PQ.inB (PQ.then_ (PQ.then_ (PQ.inB (PQ.then_ (PQ.then_ PQ.body))))))))) (Wt.yes rfl rfl rfl hk6062) (Val.cmp rfl rfl run_neq) (fun W hO => hO) ?_
        refine TA.take 29 rfl (by kernel_rfl) rfl (PQ.then_ (PQ.then_ (PQ.then_ (PQ.inB (PQ.then_ (PQ.then_ (PQ.inB (PQ.then_ (PQ.then_ PQ.body))))))))) rfl (Val.pickN rfl hk6062 rfl) (fun W hO => hO) ?_
        refine TA.done (by kernel_rfl) ?_
        exact fun a W hF hO => ⟨(!decide ((y6034.f0.length : Int) = (y6047.f0.length : Int))), h, hF.sub ⟨rfl, rfl, rfl, rfl, trivial⟩, hO.selT (Ls := [Blk b10 [.int .i64 a1.f0, .slice A5 a1.f1.length c6] 36, Blk b9 [.int .i64 a0.f0, .slice A1 a0.f1.length c2] 36]) [0, 1] 2 rfl rfl rfl⟩
     ·
      refine TC.exit ?_
      refine TQ.thenX ?_
      refine TQ.thenX ?_
      refine TQ.inBX ?_
      exact fun a W hF hO => ⟨Option.some.inj h, hF.sub trivial, hO.selT (Ls := []) [] 2 rfl rfl rfl⟩
 ·
  refine TC.region ?_
  refine TL.cons (TO.val rfl rfl rfl (Val.fieldAddrB Try.underlying36 rfl fsz3 rfl rfl rfl) ?_)
  refine TL.cons (TO.val rfl rfl rfl (Val.loadB 1 agg3 rfl rfl rfl) ?_)
  refine TL.cons (TO.val rfl rfl rfl (Val.fieldAddrB Try.underlying36 rfl fsz3 rfl rfl rfl) ?_)
  refine TL.cons (TO.val rfl rfl rfl (Val.loadB 0 agg3 rfl rfl rfl) ?_)
  refine TL.cons (TO.val rfl rfl rfl (Val.cmp rfl rfl run_neq) ?_)
  refine TL.cons (TO.val rfl rfl rfl (Val.move rfl) ?_)
  refine TK.split (p := (!decide (a0.f0 = a1.f0)) = true) h (fun hg6063 h => ?_) (fun hg6063 h => ?_)
  ·
   have hk6064 : (!decide (a0.f0 = a1.f0)) = true := hg6063
   refine TL.cons (TL.not (Wt.no rfl rfl rfl hk6064) rfl ?_)
   refine TL.cons (TL.not (Wt.no rfl rfl rfl hk6064) rfl ?_)
   refine TL.cons (TL.not (Wt.no rfl rfl rfl hk6064) rfl ?_)
   refine TL.cons (TL.not (Wt.no rfl rfl rfl hk6064) rfl ?_)
   refine TL.cons (TL.not (Wt.no rfl rfl rfl hk6064) rfl ?_)
   refine TL.cons (TL.not (Wt.no rfl rfl rfl hk6064) rfl ?_)
   refine TL.cons (TL.not (Wt.no rfl rfl rfl hk6064) rfl ?_)
   refine TL.cons (TO.val rfl rfl rfl (Val.pickY rfl hk6064 rfl) ?_)
   refine TL.nil ?_
   exact fun a W hF hO => ⟨true, h, hF.sub ⟨rfl, rfl, rfl, trivial⟩, hO.selT (Ls := [Blk b10 [.int .i64 a1.f0, .slice A5 a1.f1.length c6] 36, Blk b9 [.int .i64 a0.f0, .slice A1 a0.f1.length c2] 36]) [0, 1] 2 rfl rfl rfl⟩
  ·
   have hk6065 : (!decide (a0.f0 = a1.f0)) = false := (by simpa using hg6063)
   refine TL.cons (TO.val (Wt.yes rfl rfl rfl hk6065) rfl rfl (Val.fieldAddrB Try.underlying36 rfl fsz34 rfl rfl rfl) ?_)
   refine TL.cons (TO.val (Wt.yes rfl rfl rfl hk6065) rfl rfl (Val.loadB 1 agg34 rfl rfl rfl) ?_)
   refine TL.cons (TO.val (Wt.yes rfl rfl rfl hk6065) rfl rfl (Val.len Try.underlying34 rfl) ?_)
   refine TL.cons (TO.val (Wt.yes rfl rfl rfl hk6065) rfl rfl (Val.fieldAddrB Try.underlying36 rfl fsz34 rfl rfl rfl) ?_)
   refine TL.cons (TO.val (Wt.yes rfl rfl rfl hk6065) rfl rfl (Val.loadB 0 agg34 rfl rfl rfl) ?_)
   refine TL.cons (TO.val (Wt.yes rfl rfl rfl hk6065) rfl rfl (Val.len Try.underlying34 rfl) ?_)
   refine TL.cons (TO.val (Wt.yes rfl rfl rfl hk6065) rfl rfl (Val.cmp rfl rfl run_neq) ?_)
   refine TL.cons (TO.val rfl rfl rfl (Val.pickN rfl hk6065 rfl) ?_)
   refine TL.nil ?_
   exact fun a W hF hO => ⟨(!decide ((a0.f1.length : Int) = (a1.f1.length : Int))), h, hF.sub ⟨rfl, rfl, rfl, trivial⟩, hO.selT (Ls := [Blk b10 [.int .i64 a1.f0, .slice A5 a1.f1.length c6] 36, Blk b9 [.int .i64 a0.f0, .slice A1 a0.f1.length c2] 36]) [0, 1] 2 rfl rfl rfl⟩
end Go.Proofs.Ytmacdhkfgoahcaa.Sy
set_option linter.unusedVariables false
set_option linter.unusedSimpArgs false
namespace Go.Proofs.Ytmacdhkfgoahcaa.Sy.Dx
open Go Go.RowKit Go.Proofs.YtmacdhkfgoahcaaW.PrintWords Go.Proofs.Ytmacdhkfgoahcaa.Q Go.Proofs.Ytmacdhkfgoahcaa.Fo Go.Proofs.Ytmacdhkfgoahcaa.De Go.Proofs.Ytmacdhkfgoahcaa.Sy
def Fewp (t : S36) : Prop := t.f1.length ≤ 40 ∧ True ∧ ∀ y ∈ t.f1, y.f0.length ≤ 250 ∧ ∀ o ∈ y.f0, o.f5.length ≤ 17592186044416
theorem drop_nil {α : Type} {l : List α} {i : Nat} (h : l.drop i = []) : ¬ ((i : Int) < (l.length : Int)) := by
  have := List.drop_eq_nil_iff.1 h; omega
theorem drop_cons {α : Type} {l r : List α} {y : α} {i : Nat} (h : l.drop i = y :: r) : (i : Int) < (l.length : Int) ∧ at? l (i : Int) = some y ∧ l.drop (i + 1) = r ∧ y ∈ l := by
  have hl : i < l.length := by
    apply Classical.byContradiction; intro hn
    rw [List.drop_eq_nil_of_le (by omega)] at h; cases h
  rw [List.drop_eq_getElem_cons hl] at h
  injection h with h1 h2
  refine ⟨by omega, ?_, h2, by rw [← h1]; exact List.getElem_mem hl⟩
  unfold at?
  rw [if_pos (by omega)]
  simp [List.getElem?_eq_getElem hl, h1]
theorem w64 {n : Int} (h0 : -9223372036854775808 ≤ n) (h1 : n ≤ 9223372036854775807) : IntKind.i64.wrap n = n := by
  rw [IntKind.wrap_i64]; omega
theorem wsucc {i : Nat} (h : i ≤ 140737488355328) : IntKind.i64.wrap ((i : Int) + 1) = ((i + 1 : Nat) : Int) := by
  rw [w64 (by omega) (by omega)]; omega
theorem loopd {α ρ : Type} {xs : List α} (hl : xs.length ≤ 140737488355328) {F : Nat → Int → ρ} {P : List α → ρ → Prop} (hend : ∀ n, P [] (F (n + 1) (xs.length : Int)))
    (hstep : ∀ n (i : Nat) y r, xs.drop i = y :: r → (i : Int) < (xs.length : Int) → at? xs (i : Int) = some y → y ∈ xs → IntKind.i64.wrap ((i : Int) + 1) = ((i + 1 : Nat) : Int) → P r (F n ((i + 1 : Nat) : Int)) → P (y :: r) (F (n + 1) (i : Int))) :
    ∀ n, xs.length < n → P xs (F n 0) := by
  have key : ∀ (ys : List α) (n i : Nat), xs.drop i = ys → ys.length < n → i ≤ xs.length → P ys (F n (i : Int)) := by
    intro ys
    induction ys with
    | nil =>
      intro n i hd hn hi
      have hlen := congrArg List.length hd
      rw [List.length_drop, List.length_nil] at hlen
      obtain rfl : i = xs.length := by omega
      obtain ⟨m, rfl⟩ : ∃ m, n = m + 1 := ⟨n - 1, by simp at hn; omega⟩
      exact hend m
    | cons y r ih =>
      intro n i hd hn hi
      obtain ⟨h1, h2, h3, h4⟩ := drop_cons hd
      obtain ⟨m, rfl⟩ : ∃ m, n = m + 1 := ⟨n - 1, by omega⟩
      exact hstep m i y r hd h1 h2 h4 (wsucc (by omega)) (ih m (i + 1) h3 (by simp at hn; omega) (by omega))
  intro n hn
  exact key xs n 0 (by simp) hn (by omega)
theorem at_nat {α : Type} {xs : List α} {i : Nat} {y : α} : at? xs (i : Int) = some y ↔ xs[i]? = some y := by
  unfold at?; rw [if_pos (by omega), Int.toNat_natCast]
theorem at_zip {α β : Type} {xs : List α} {zs : List β} {i : Nat} {p : α × β} (h : at? (xs.zip zs) (i : Int) = some p) : at? xs (i : Int) = some p.1 ∧ at? zs (i : Int) = some p.2 := by
  rw [at_nat] at h
  rw [at_nat, at_nat]
  obtain ⟨h1, h2⟩ := List.getElem?_eq_some_iff.1 h
  rw [List.length_zip] at h1
  rw [List.getElem_zip] at h2
  subst h2
  exact ⟨List.getElem?_eq_getElem _, List.getElem?_eq_getElem _⟩
theorem zip_all {α : Type} : ∀ {xs zs : List α}, xs.length = zs.length → ((∀ p ∈ xs.zip zs, p.1 = p.2) ↔ xs = zs)
  | [], [], _ => by simp
  | x :: xs, z :: zs, h => by
    have ih := zip_all (xs := xs) (zs := zs) (by simpa using h)
    simp only [List.zip_cons_cons, List.mem_cons, forall_eq_or_imp, List.cons.injEq]
    rw [← ih]
theorem rcopy_l1 {t : S36} {j : Int} {y : S28} (hy : at? t.f1 j = some y) (hl : y.f0.length ≤ 1000) (ho : ∀ o ∈ y.f0, o.f5.length ≤ 17592186044416) : swageref14_Copy.l1 t j (y.f0.length + 1) 0 [] = some y.f0 := by
  have := loopd (xs := y.f0) (F := fun n i z => swageref14_Copy.l1 t j n i z) (P := fun ys f => ∀ acc, acc.length + ys.length ≤ 2000 → f acc = some (acc ++ ys)) (by omega) (fun n acc h => ?_) (fun n i o r hd hlt hat hm hw ih acc h => ?_) (y.f0.length + 1) (by omega)
  · have := this [] (by simp; omega); simpa using this
  · simp [swageref14_Copy.l1, hy]
  · show swageref14_Copy.l1 t j (n + 1) i acc = _
    simp only [List.length_cons] at h
    rw [swageref14_Copy.l1, hy, Option.bind_some, if_pos hlt, hat, Option.bind_some, if_pos (by have := ho o hm; simp; omega), if_pos (by omega), hw, List.nil_append]
    have := ih (acc ++ [o]) (by simp; omega)
    simpa using this
theorem rcopy_f {t : S36} (h : Fewp t) : swageref14_Copy.f t = some t := by
  obtain ⟨h1, h2, h3⟩ := h
  unfold swageref14_Copy.f
  have := loopd (xs := t.f1) (F := fun n i z => swageref14_Copy.l0 t n i z) (P := fun ys f => ∀ acc, acc.length + ys.length ≤ 2000 → f acc = some (acc ++ ys)) (by omega) (fun n acc h => ?_) (fun n i y r hd hlt hat hm hw ih acc h => ?_) (t.f1.length + 1) (by omega)
  · have h0 := this [] (by simp; omega)
    simp only [List.nil_append] at h0
    rw [h0, Option.bind_some]
  · simp [swageref14_Copy.l0]
  · show swageref14_Copy.l0 t (n + 1) i acc = _
    simp only [List.length_cons] at h
    rw [swageref14_Copy.l0, if_pos hlt, hat, Option.bind_some, Option.elim_some, rcopy_l1 hat (by have := (h3 y hm).1; omega) (h3 y hm).2, Option.bind_some, if_pos (by omega), hw]
    have := ih (acc ++ [y]) (by simp; omega)
    simpa using this
theorem ints_f {a b : List Int} (hl : a.length ≤ 20000000000000) : swageref02_Ints.f a b = some (decide (a = b)) := by
  unfold swageref02_Ints.f
  by_cases h : a.length = b.length
  · rw [decide_eq_true (by omega : (a.length : Int) = (b.length : Int)), if_neg (by simp)]
    have hz : (a.zip b).length = a.length := by rw [List.length_zip]; omega
    have := loopd (xs := a.zip b) (F := fun n i => swageref02_Ints.l0 a b n i) (P := fun ps r => (r = some (.inr ()) ∧ ∀ p ∈ ps, p.1 = p.2) ∨ (r = some (.inl false) ∧ ¬ ∀ p ∈ ps, p.1 = p.2)) (by omega) (fun n => ?_) (fun n i p r hd hlt hat hm hw ih => ?_) (a.length + 1) (by omega)
    · rw [zip_all h] at this
      rcases this with ⟨h1, h2⟩ | ⟨h1, h2⟩
      · rw [h1, decide_eq_true h2]; rfl
      · rw [h1, decide_eq_false h2]; rfl
    · left; rw [hz]; simp [swageref02_Ints.l0]
    · obtain ⟨h1, h2⟩ := at_zip hat
      rw [swageref02_Ints.l0, if_pos (by omega), h1, Option.bind_some, h2, Option.bind_some]
      by_cases he : p.1 = p.2
      · rw [decide_eq_true he, if_neg (by simp), hw]
        rcases ih with ⟨i1, i2⟩ | ⟨i1, i2⟩
        · exact .inl ⟨i1, by simpa [he] using i2⟩
        · exact .inr ⟨i1, fun hh => i2 (fun q hq => hh q (List.mem_cons_of_mem _ hq))⟩
      · rw [decide_eq_false he, if_pos (by simp)]
        exact .inr ⟨rfl, fun hh => he (hh p List.mem_cons_self)⟩
  · rw [decide_eq_false (by omega : ¬ (a.length : Int) = (b.length : Int)), if_pos (by simp), decide_eq_false (fun e => h (by rw [e]))]
theorem rsameOp_f {a b : S30} (hl : a.f5.length ≤ 17592186044416) : ∃ r, swageref14_SameOp.f a b = some r ∧ (r = true ↔ a = b) := by
  unfold swageref14_SameOp.f
  rw [ints_f (by omega), Option.bind_some]
  have key : (a = b) ↔ (a.f5 = b.f5 ∧ a.f0 = b.f0 ∧ a.f1 = b.f1 ∧ a.f2 = b.f2 ∧ a.f3 = b.f3 ∧ a.f4 = b.f4) := by
    constructor
    · rintro rfl; simp
    · rintro ⟨h5, h0, h1, h2, h3, h4⟩; cases a; cases b; simp only at h5 h0 h1 h2 h3 h4; subst h5; subst h0; subst h1; subst h2; subst h3; subst h4; rfl
  rw [key]
  by_cases h5 : a.f5 = b.f5
  · rw [decide_eq_true h5, if_pos rfl]
    by_cases h0 : a.f0 = b.f0
    · rw [if_pos h0]
      by_cases h1 : a.f1 = b.f1
      · rw [if_pos h1]
        by_cases h2 : a.f2 = b.f2
        · rw [if_pos h2]
          by_cases h3 : a.f3 = b.f3
          · rw [if_pos h3]; exact ⟨_, rfl, by simp [h5, h0, h1, h2, h3]⟩
          · rw [if_neg h3]; exact ⟨_, rfl, by simp [h3]⟩
        · rw [if_neg h2]; exact ⟨_, rfl, by simp [h2]⟩
      · rw [if_neg h1]; exact ⟨_, rfl, by simp [h1]⟩
    · rw [if_neg h0]; exact ⟨_, rfl, by simp [h0]⟩
  · rw [decide_eq_false h5, if_neg (by simp)]; exact ⟨_, rfl, by simp [h5]⟩
theorem rsame_l1 {a b : S36} {j : Int} {y z : S28} (hy : at? a.f1 j = some y) (hz : at? b.f1 j = some z) (hl : y.f0.length ≤ 1000) (ho : ∀ o ∈ y.f0, o.f5.length ≤ 17592186044416) (h : y.f0.length = z.f0.length) :
    (swageref14_Same.l1 a b j (y.f0.length + 1) 0 = some (.inr ()) ∧ y.f0 = z.f0) ∨ (swageref14_Same.l1 a b j (y.f0.length + 1) 0 = some (.inl (.inl false)) ∧ ¬ y.f0 = z.f0) := by
  have hzl : (y.f0.zip z.f0).length = y.f0.length := by rw [List.length_zip]; omega
  have := loopd (xs := y.f0.zip z.f0) (F := fun n i => swageref14_Same.l1 a b j n i) (P := fun ps r => (r = some (.inr ()) ∧ ∀ p ∈ ps, p.1 = p.2) ∨ (r = some (.inl (.inl false)) ∧ ¬ ∀ p ∈ ps, p.1 = p.2)) (by omega) (fun n => ?_) (fun n i p r hd hlt hat hm hw ih => ?_) (y.f0.length + 1) (by omega)
  · rw [zip_all h] at this; exact this
  · left; rw [hzl]; simp [swageref14_Same.l1, hy]
  · obtain ⟨h1, h2⟩ := at_zip hat
    have hm1 : p.1 ∈ y.f0 := by rw [at_nat] at h1; exact List.mem_of_getElem? h1
    obtain ⟨w, w1, w2⟩ := rsameOp_f (a := p.1) (b := p.2) (ho _ hm1)
    rw [swageref14_Same.l1, hy, Option.bind_some, if_pos (by omega), h1, Option.bind_some, hz, Option.bind_some, h2, Option.bind_some, w1, Option.bind_some]
    by_cases he : p.1 = p.2
    · rw [w2.2 he, if_neg (by simp), hw]
      rcases ih with ⟨i1, i2⟩ | ⟨i1, i2⟩
      · exact .inl ⟨i1, by simpa [he] using i2⟩
      · exact .inr ⟨i1, fun hh => i2 (fun q hq => hh q (List.mem_cons_of_mem _ hq))⟩
    · have hw' : w = false := by cases w; rfl; exact absurd (w2.1 rfl) he
      rw [hw', if_pos (by simp)]
      exact .inr ⟨rfl, fun hh => he (hh p List.mem_cons_self)⟩
theorem rsame_f {a b : S36} (hf : Fewp a) : ∃ r, swageref14_Same.f a b = some r ∧ (r = true ↔ a = b) := by
  obtain ⟨f1, f2, f3⟩ := hf
  unfold swageref14_Same.f
  simp only [jn]
  by_cases h0 : a.f0 = b.f0
  · rw [decide_eq_true h0, if_neg (by simp)]
    by_cases h : a.f1.length = b.f1.length
    · rw [decide_eq_true (by omega : (a.f1.length : Int) = (b.f1.length : Int)), if_neg (by simp)]
      have hzl : (a.f1.zip b.f1).length = a.f1.length := by rw [List.length_zip]; omega
      have := loopd (xs := a.f1.zip b.f1) (F := fun n i => swageref14_Same.l0 a b n i) (P := fun ps r => (r = some (.inr ()) ∧ ∀ p ∈ ps, p.1 = p.2) ∨ (r = some (.inl false) ∧ ¬ ∀ p ∈ ps, p.1 = p.2)) (by omega) (fun n => ?_) (fun n i p r hd hlt hat hm hw ih => ?_) (a.f1.length + 1) (by omega)
      · rw [zip_all h] at this
        rcases this with ⟨h1, h2⟩ | ⟨h1, h2⟩
        · rw [h1]; exact ⟨_, rfl, by simp; cases a; cases b; simp only at h0 h2; rw [h0, h2]⟩
        · rw [h1]; exact ⟨_, rfl, by simp; intro e; exact h2 (by rw [e])⟩
      · left; rw [hzl]; simp [swageref14_Same.l0]
      · obtain ⟨h1, h2⟩ := at_zip hat
        have hm1 : p.1 ∈ a.f1 := by rw [at_nat] at h1; exact List.mem_of_getElem? h1
        have hneq : p.1 ≠ p.2 → ¬ ∀ q ∈ p :: r, q.1 = q.2 := fun hn hh => hn (hh p List.mem_cons_self)
        rw [swageref14_Same.l0, if_pos (by omega)]
        simp only [jn, h1, h2, Option.bind_some, Option.elim_some]
        have ht : (!((p.1.f1.f0 == p.2.f1.f0) && ((p.1.f1.f1 == p.2.f1.f1) && ((p.1.f1.f2 == p.2.f1.f2) && (p.1.f1.f3 == p.2.f1.f3))))) = true ↔ ¬ p.1.f1 = p.2.f1 := by
          have : p.1.f1 = p.2.f1 ↔ (p.1.f1.f0 = p.2.f1.f0 ∧ p.1.f1.f1 = p.2.f1.f1 ∧ p.1.f1.f2 = p.2.f1.f2 ∧ p.1.f1.f3 = p.2.f1.f3) := by
            constructor
            · intro e; rw [e]; simp
            · rintro ⟨e0, e1, e2, e3⟩
              rcases hp1 : p.1.f1 with ⟨x0, x1, x2, x3⟩
              rcases hp2 : p.2.f1 with ⟨w0, w1, w2, w3⟩
              rw [hp1, hp2] at e0 e1 e2 e3
              simp only at e0 e1 e2 e3; rw [e0, e1, e2, e3]
          rw [this]; simp only [Bool.not_eq_true', Bool.and_eq_false_iff, beq_eq_false_iff_ne, ne_eq]; constructor
          · rintro h ⟨e0, e1, e2, e3⟩; rcases h with h | h | h | h <;> contradiction
          · intro h
            by_cases e0 : p.1.f1.f0 = p.2.f1.f0
            · by_cases e1 : p.1.f1.f1 = p.2.f1.f1
              · by_cases e2 : p.1.f1.f2 = p.2.f1.f2
                · exact .inr (.inr (.inr (fun e3 => h ⟨e0, e1, e2, e3⟩)))
                · exact .inr (.inr (.inl e2))
              · exact .inr (.inl e1)
            · exact .inl e0
        by_cases he : p.1.f1 = p.2.f1
        · rw [if_neg (fun hh => ht.1 hh he)]
          by_cases hlen : p.1.f0.length = p.2.f0.length
          · rw [decide_eq_true (by omega : (p.1.f0.length : Int) = (p.2.f0.length : Int)), if_neg (by simp)]
            rcases rsame_l1 h1 h2 (by have := (f3 _ hm1).1; omega) (f3 _ hm1).2 hlen with ⟨k1, k2⟩ | ⟨k1, k2⟩
            · rw [k1, Option.bind_some]
              simp only [hw]
              have hpe : p.1 = p.2 := by
                rcases hp1 : p.1 with ⟨x0, x1⟩
                rcases hp2 : p.2 with ⟨w0, w1⟩
                rw [hp1, hp2] at he k2
                simp only at he k2; rw [he, k2]
              rcases ih with ⟨i1, i2⟩ | ⟨i1, i2⟩
              · exact .inl ⟨i1, by simpa [hpe] using i2⟩
              · exact .inr ⟨i1, fun hh => i2 (fun q hq => hh q (List.mem_cons_of_mem _ hq))⟩
            · rw [k1, Option.bind_some]; exact .inr ⟨rfl, hneq (fun e => k2 (by rw [e]))⟩
          · rw [decide_eq_false (by omega : ¬ (p.1.f0.length : Int) = (p.2.f0.length : Int)), if_pos (by simp)]
            exact .inr ⟨rfl, hneq (fun e => hlen (by rw [e]))⟩
        · rw [if_pos (ht.2 he)]; rw [if_pos trivial]; exact .inr ⟨rfl, hneq (fun e => he (by rw [e]))⟩
    · rw [decide_eq_false (by omega : ¬ (a.f1.length : Int) = (b.f1.length : Int))]
      exact ⟨false, by simp, by simp; intro e; exact h (by rw [e])⟩
  · rw [decide_eq_false h0]
    exact ⟨false, by simp, by simp; intro e; exact h0 (by rw [e])⟩
end Go.Proofs.Ytmacdhkfgoahcaa.Sy.Dx
set_option linter.unusedVariables false
set_option linter.unusedSimpArgs false
set_option maxRecDepth 100000
set_option maxHeartbeats 4000000
namespace Go.Proofs.Ytmacdhkfgoahcaa.Sy
open Go Go.RowKit Go.Proofs.YtmacdhkfgoahcaaW.PrintWords Go.Proofs.Ytmacdhkfgoahcaa.Q
def slices_Clone_api_Block_api_Block.f (a0 : (List S28)) : Option (List S28) := (if ([] : List S28).length + a0.length ≤ 2513169434916 then some (([] : List S28) ++ a0) else none)
def slices_Clone_api_Block_api_Block.post (G : Gd)  (r : (List S28)) (v : Value) (G' : Gd) (Lr : List Ch) : Prop := G = G' ∧ ∃ (A_1 : Option Addr) (c_1 : Nat), v = .slice A_1 r.length c_1 ∧ Lr = [Row (Sh G k28) 28 (.slice A_1 r.length c_1) r]
theorem slices_Clone_api_Block_api_Block.calls {G : Gd} {r : (List S28)} {a0 : (List S28)} {A1 : Option Addr} {c2 : Nat} (hr3 : Rd G k28 A1 a0) (hl4 : a0.length ≤ c2) (h : slices_Clone_api_Block_api_Block.f a0 = some r) : Fn Try.prog 39 G [] [.slice A1 a0.length c2] (slices_Clone_api_Block_api_Block.post G  r) := by
 refine Fn.intro (e := [(0, .slice A1 a0.length c2)]) 8 Try.func39 rfl Try.ntmps39 rfl rfl (Nat.le_of_ble_eq_true rfl) (fun L => ?_)
 unfold slices_Clone_api_Block_api_Block.f at h
 refine TC.seq ?_
 refine TC.region ?_
 refine TL.cons (TO.val rfl rfl rfl (Val.assign rfl) ?_)
 refine TL.nil ?_
 refine TQ.then_ ?_
 refine TC.seq ?_
 refine TC.seq ?_
 refine TC.region ?_
 refine TL.cons (TO.val rfl rfl rfl (Val.move rfl) ?_)
 refine TL.cons (TO.val rfl rfl rfl (Val.eqNil Try.underlying34 rfl) ?_)
 refine TL.nil ?_
 refine TQ.then_ ?_
 refine TC.cond rfl (fun hc6 => ?_) (fun hc6 => ?_)
 ·
  have hn := Rd.nilEq hr3 hc6
  have h : some ([] : List S28) = some r := by first | (simpa [hn] using h) | (simp [hn] at h; simp [h, hn])
  refine TC.seq ?_
  refine TC.region ?_
  refine TL.cons (TO.val rfl rfl rfl (Val.assign rfl) ?_)
  refine TL.nil ?_
  refine TQ.then_ ?_
  refine TC.ret ?_
  refine TQ.thenR ?_
  refine TQ.nilRow (Sh G k28) 28 ?_
  obtain rfl := Option.some.inj h
  exact TQ.fin (.inl rfl) rfl Try.results39 (.tmp rfl .nil) rfl (FRel.mk (Ls := [Row (Sh G k28) 28 (.slice none 0 0) ([] : List S28)]) [0] 1 (Gd.le.refl _) rfl rfl rfl ⟨rfl, none, 0, rfl, rfl⟩)
 ·
  refine TC.skip ?_
  refine TQ.then_ ?_
  refine TC.seq ?_
  refine TC.region ?_
  refine TL.cons (TL.buildSlice0 k28 rfl rfl Try.underlying34 zs28 (fun b8 => ?_))
  refine TL.cons (TO.val rfl rfl rfl (Val.move rfl) ?_)
  refine TK.conv (ch' := Row (Sh G k28) 28 (.slice (some ⟨b8, 0, none⟩) 0 0) ([] : List S28)) (fun B W F hh => Row.empty k28 (Sh G k28) rfl B W F hh) ?_
  obtain ⟨ha10, h⟩ := ite_no h
  refine TL.cons (TL.appendR (xs := ([] : List S28)) (ys := a0) (Sh G k28) (Sh G k28) rfl rfl Try.underlying34 inf28 rfl (Nat.le_of_ble_eq_true rfl) (Nat.le_of_ble_eq_true rfl) rfl rfl (by omega) (Rd.sh hr3) rfl (fun _ _ _ _ _ h => h) (fun A11 c12 => ?_))
  refine TL.cons (TO.val rfl rfl rfl (Val.assign rfl) ?_)
  refine TL.nil ?_
  refine TQ.then_ ?_
  refine TC.ret ?_
  obtain rfl := Option.some.inj h
  exact TQ.fin (.inl rfl) rfl Try.results39 (.tmp rfl .nil) rfl (FRel.mk (Ls := [Row (Sh G k28) 28 (.slice A11 (([] : List S28) ++ a0).length c12) (([] : List S28) ++ a0)]) [0] 1 (Gd.le.refl _) rfl rfl rfl ⟨rfl, A11, c12, rfl, rfl⟩)
end Go.Proofs.Ytmacdhkfgoahcaa.Sy
set_option linter.unusedVariables false
set_option linter.unusedSimpArgs false
set_option maxRecDepth 100000
set_option maxHeartbeats 4000000
namespace Go.Proofs.Ytmacdhkfgoahcaa.Sy
open Go Go.RowKit Go.Proofs.YtmacdhkfgoahcaaW.PrintWords Go.Proofs.Ytmacdhkfgoahcaa.Q
def deadstore_Func.l0 (y7 : (List S28)) : Nat → (List S28) → Int → Option ((List S28))
 | 0, _, _ => none
 | n538 + 1, l435, x440 => (if x440 < (y7.length : Int) then (at? l435 x440).bind fun y685 => (deadstore_Block.f y685).bind fun (y711 : S28) => (at? l435 x440).bind fun y716 => deadstore_Func.l0 y7 n538 (l435.set x440.toNat y711) (IntKind.i64.wrap (x440 + 1)) else some l435)
def deadstore_Func.f (a0 : S36) : Option S36 := (slices_Clone_api_Block_api_Block.f a0.f1).bind fun (y7 : (List S28)) => (deadstore_Func.l0 y7 (y7.length + 1) y7 0).bind fun (l533 : (List S28)) => some (⟨a0.f0, l533⟩ : S36)
def deadstore_Func.post (G : Gd)  (r : S36) (v : Value) (G' : Gd) (Lr : List Ch) : Prop := G = G' ∧ ∃ (A_1 : Option Addr) (c_1 : Nat), v = .agg #[.int .i64 r.f0, .slice A_1 r.f1.length c_1] ∧ Lr = [Row k28 28 (.slice A_1 r.f1.length c_1) r.f1]
theorem deadstore_Func.calls {G : Gd} {r : S36} {a0 : S36} {A1 : Option Addr} {c2 : Nat} (hr3 : Rd G k28 A1 a0.f1) (hl4 : a0.f1.length ≤ c2) (h : deadstore_Func.f a0 = some r) : Fn Try.prog 15 G [] [.agg #[.int .i64 a0.f0, .slice A1 a0.f1.length c2]] (deadstore_Func.post G  r) := by
 refine Fn.intro (e := [(0, .agg #[.int .i64 a0.f0, .slice A1 a0.f1.length c2])]) 25 Try.func15 rfl Try.ntmps15 rfl rfl (Nat.le_of_ble_eq_true rfl) (fun L => ?_)
 unfold deadstore_Func.f at h
 refine TC.seq ?_
 refine TC.region ?_
 refine TL.cons (TL.box (cs := [.int .i64 a0.f0, .slice A1 a0.f1.length c2]) rfl rfl rfl rfl (fun b5 => ?_))
 refine TL.cons (TL.alloc (cs := [.int .i64 0, .slice none 0 0]) rfl rfl zr36 rfl (fun b6 => ?_))
 refine TL.nil ?_
 refine TQ.then_ ?_
 refine TC.seq ?_
 refine TC.region ?_
 refine TL.cons (TO.val rfl rfl rfl (Val.fieldAddrB Try.underlying36 rfl fsz34 rfl rfl rfl) ?_)
 refine TL.cons (TO.val rfl rfl rfl (Val.loadB 1 agg34 rfl rfl rfl) ?_)
 obtain ⟨y7, hy8, h⟩ := bind_no h
 refine TL.cons (TL.callV (Lin := []) (args := [.slice A1 a0.f1.length c2]) rfl rfl rfl hbd39 rfl rfl (slices_Clone_api_Block_api_Block.calls (a0 := a0.f1) hr3 hl4 hy8) rfl ?_)
 rintro _ _ _ _ ⟨rfl, A9, c10, rfl, rfl⟩
 refine TL.cons (TO.val rfl rfl rfl (Val.fieldAddrB Try.underlying36 rfl fsz34 rfl rfl rfl) ?_)
 refine TL.cons (TL.store 2 (ds := [.slice A9 y7.length c10]) (cs' := [.int .i64 a0.f0, .slice A9 y7.length c10]) (L' := (Row (Sh G k28) 28 (.slice A9 y7.length c10) y7 :: Blk b6 [.int .i64 0, .slice none 0 0] 36 :: Blk b5 [.int .i64 a0.f0, .slice A9 y7.length c10] 36 :: L)) rfl fsz34 rfl rfl rfl rfl rfl (Nat.le_of_ble_eq_true rfl) rfl rfl ?_)
 refine TL.nil ?_
 refine TQ.then_ ?_
 refine TC.seq ?_
 refine TC.seq ?_
 refine TC.region ?_
 refine TL.cons (TO.val rfl rfl rfl (Val.fieldAddrB Try.underlying36 rfl fsz34 rfl rfl rfl) ?_)
 refine TL.cons (TO.val rfl rfl rfl (Val.loadB 2 agg34 rfl rfl rfl) ?_)
 refine TL.cons (TO.val rfl rfl rfl (Val.len Try.underlying34 rfl) ?_)
 refine TL.cons (TO.val rfl rfl rfl (Val.move rfl) ?_)
 refine TL.nil ?_
 refine TQ.then_ ?_
 refine TC.conv (ch' := Row (Tg G k28) 28 (.slice A9 y7.length c10) (mixl 0 y7)) (fun B W F hh => Row.mix0 B W F hh) ?_
 obtain ⟨o537, ho537, ko537⟩ := bind_no h
 clear h
 refine TC.tail (fun a W => ∃ (l533 : (List S28)) (A534 : Option Addr) (c535 : Nat), l533 = o537 ∧ Fr 25 a [(1, .pointer (some ⟨b5, 0, none⟩)), (2, .pointer (some ⟨b6, 0, none⟩))] ∧ Own G (Blk b5 [.int .i64 a0.f0, .slice A534 l533.length c535] 36 :: Blk b6 [.int .i64 0, .slice none 0 0] 36 :: Row k28 28 (.slice A534 l533.length c535) l533 :: L) W) ?_ ?_
 ·
  rintro a W ⟨l533, A534, c535, rfl, hF, hO⟩
  have h := ko537
  clear ko537 ho537
  refine TQ.use ?_ hF hO
  clear hF hO
  refine TQ.then_ ?_
  refine TC.seq ?_
  refine TC.region ?_
  refine TL.cons (TO.val rfl rfl rfl (Val.loadsB 0 (cs := [.int .i64 a0.f0, .slice A534 l533.length c535]) agg36 fsz36 rfl rfl rfl rfl) ?_)
  refine TL.cons (TL.store 1 (ds := [.int .i64 a0.f0, .slice A534 l533.length c535]) (cs' := [.int .i64 a0.f0, .slice A534 l533.length c535]) (L' := (Blk b5 [.int .i64 a0.f0, .slice A534 l533.length c535] 36 :: Blk b6 [.int .i64 a0.f0, .slice A534 l533.length c535] 36 :: Row k28 28 (.slice A534 l533.length c535) l533 :: L)) rfl fsz36 rfl rfl rfl rfl rfl (Nat.le_of_ble_eq_true rfl) rfl rfl ?_)
  refine TL.nil ?_
  refine TQ.then_ ?_
  refine TC.ret ?_
  obtain rfl := Option.some.inj h
  exact TQ.fin (.inl rfl) rfl Try.results15 (.cells 1 rfl rfl agg36 fsz36 .nil) rfl (FRel.mk (Ls := [Row k28 28 (.slice A534 l533.length c535) l533]) [2] 3 (Gd.le.refl _) rfl rfl rfl ⟨rfl, A534, c535, rfl, rfl⟩)
 ·
  refine TC.block ?_
  intro a W hF hO
  have hS : ∃ (l435 : (List S28)) (x440 : Int) (A436 : Option Addr) (c437 : Nat), deadstore_Func.l0 y7 (y7.length + 1) l435 x440 = some o537 ∧ l435.length = y7.length ∧ Fr 25 a [(1, .pointer (some ⟨b5, 0, none⟩)), (2, .pointer (some ⟨b6, 0, none⟩)), (10, .slice A436 l435.length c437), (11, .int .i64 (y7.length : Int)), (12, .int .i64 x440)] ∧ Own G (Blk b5 [.int .i64 a0.f0, .slice A436 l435.length c437] 36 :: Blk b6 [.int .i64 0, .slice none 0 0] 36 :: Row (Tg G k28) 28 (.slice A436 l435.length c437) (mixl x440 l435) :: L) W := by
   exact ⟨y7, 0, A9, c10, ho537, (by first | rfl | assumption | omega | (simp only [List.length_set]; first | rfl | assumption | omega)), hF.sub ⟨rfl, rfl, rfl, rfl, rfl, trivial⟩, hO.selT (Ls := [Blk b5 [.int .i64 a0.f0, .slice A9 y7.length c10] 36, Blk b6 [.int .i64 0, .slice none 0 0] 36, Row (Tg G k28) 28 (.slice A9 y7.length c10) (mixl 0 y7)]) [2, 1, 0] 3 rfl rfl rfl⟩
  clear hF hO ho537 ko537
  refine TC.loop (fun n538 a W => ∃ (l435 : (List S28)) (x440 : Int) (A436 : Option Addr) (c437 : Nat), deadstore_Func.l0 y7 n538 l435 x440 = some o537 ∧ l435.length = y7.length ∧ Fr 25 a [(1, .pointer (some ⟨b5, 0, none⟩)), (2, .pointer (some ⟨b6, 0, none⟩)), (10, .slice A436 l435.length c437), (11, .int .i64 (y7.length : Int)), (12, .int .i64 x440)] ∧ Own G (Blk b5 [.int .i64 a0.f0, .slice A436 l435.length c437] 36 :: Blk b6 [.int .i64 0, .slice none 0 0] 36 :: Row (Tg G k28) 28 (.slice A436 l435.length c437) (mixl x440 l435) :: L) W) ?_ ?_ hS
  ·
   rintro a W ⟨l435, x440, A436, c437, h, hl439, hF, hO⟩
   exact none_no h
  ·
   clear hS
   rintro n538 a W ⟨l435, x440, A436, c437, h, hl439, hF, hO⟩
   rw [deadstore_Func.l0] at h
   refine TC.use ?_ hF hO
   clear hF hO
   refine TC.seq ?_
   refine TC.region ?_
   refine TL.cons (TO.val rfl rfl rfl (Val.cmp rfl rfl run_lss) ?_)
   refine TL.nil ?_
   refine TQ.then_ ?_
   refine TC.seq ?_
   refine TC.cond_p rfl h (fun hc632 h => ?_) (fun hc632 h => ?_)
   ·
    refine TC.skip ?_
    refine TQ.then_ ?_
    refine TC.seq ?_
    refine TC.block ?_
    refine TC.seq ?_
    refine TC.region ?_
    refine TL.cons (TO.val rfl rfl rfl (Val.move rfl) ?_)
    refine TK.sel (Ls := [Row (Tg G k28) 28 (.slice A436 l435.length c437) (mixl x440 l435), Blk b5 [.int .i64 a0.f0, .slice A436 l435.length c437] 36, Blk b6 [.int .i64 0, .slice none 0 0] 36]) [2, 0, 1] 3 rfl rfl rfl ?_
    refine TK.share (fun G678 e679 hs680 hb681 => ?_)
    have rd682 : Rd G678 k28 A436 l435 := Rd.mixed (Rd.row hs680) e679
    have le683 : l435.length ≤ c437 := (by have h_ := Row.le hs680; rwa [mixl_length] at h_)
    have rd684 := Rd.row hs680
    obtain ⟨y685, hx686, h⟩ := bind_no h
    obtain ⟨ad687, cs693, hA688, hi689, hj690, hcl691, hK692⟩ := Rd.at rd684 (at_mixl hx686)
    have hK692 := Tg.shK (hK692 _ (Gd.self _))
    rw [mixl_length] at hj690
    obtain ⟨A694, c695, rfl, hr696, hl697⟩ := k28_openR hK692
    refine TL.cons (TO.val rfl rfl rfl (Val.indexAddr Try.underlying34 fsz28 rfl hA688 rfl hi689 hj690) ?_)
    refine TL.cons (TO.val rfl rfl rfl (Val.loadsS (cs := [.slice A694 y685.f0.length c695, .int .i64 y685.f1.f0, .int .i64 y685.f1.f1, .int .i64 y685.f1.f2, .int .i64 y685.f1.f3]) agg28 fsz28 rfl rfl (Cl.sub (off := 0) (n := 5) hcl691 rfl)) ?_)
    refine TL.cons (TL.alloc (cs := [.slice none 0 0, .int .i64 0, .int .i64 0, .int .i64 0, .int .i64 0]) rfl rfl zr28 rfl (fun b698 => ?_))
    refine TL.cons (TO.val rfl rfl rfl (Val.assign rfl) ?_)
    refine TL.cons (TL.store 0 (ds := [.slice A694 y685.f0.length c695, .int .i64 y685.f1.f0, .int .i64 y685.f1.f1, .int .i64 y685.f1.f2, .int .i64 y685.f1.f3]) (cs' := [.slice A694 y685.f0.length c695, .int .i64 y685.f1.f0, .int .i64 y685.f1.f1, .int .i64 y685.f1.f2, .int .i64 y685.f1.f3]) (L' := (Blk b698 [.slice A694 y685.f0.length c695, .int .i64 y685.f1.f0, .int .i64 y685.f1.f1, .int .i64 y685.f1.f2, .int .i64 y685.f1.f3] 28 :: Blk b5 [.int .i64 a0.f0, .slice A436 l435.length c437] 36 :: Blk b6 [.int .i64 0, .slice none 0 0] 36 :: L)) rfl fsz28 rfl rfl rfl rfl rfl (Nat.le_of_ble_eq_true rfl) rfl rfl ?_)
    refine TL.nil ?_
    refine TQ.then_ ?_
    refine TC.regionAny [6] [0, 1, 2, 3, 5] mixed (by kernel_rfl) ?_
    refine TA.take 0 rfl (by kernel_rfl) rfl (PQ.inB (PQ.then_ (PQ.then_ (PQ.inB (PQ.then_ (PQ.then_ PQ.body)))))) rfl (Val.fieldAddrB Try.underlying36 rfl fsz34 rfl rfl rfl) (fun W hO => hO) ?_
    refine TA.take 1 rfl (by kernel_rfl) rfl (PQ.inB (PQ.then_ (PQ.then_ (PQ.inB (PQ.then_ (PQ.then_ PQ.body)))))) rfl (Val.loadB 1 agg34 rfl rfl rfl) (fun W hO => hO) ?_
    refine TA.take 2 rfl (by kernel_rfl) rfl (PQ.inB (PQ.then_ (PQ.then_ (PQ.inB (PQ.then_ (PQ.then_ PQ.body)))))) rfl (Val.move rfl) (fun W hO => hO) ?_
    refine TA.take 3 rfl (by kernel_rfl) rfl (PQ.inB (PQ.then_ (PQ.then_ (PQ.inB (PQ.then_ (PQ.then_ PQ.body)))))) rfl (Val.loadsB 0 (cs := [.slice A694 y685.f0.length c695, .int .i64 y685.f1.f0, .int .i64 y685.f1.f1, .int .i64 y685.f1.f2, .int .i64 y685.f1.f3]) agg28 fsz28 rfl rfl rfl rfl) (fun W hO => hO) ?_
    obtain ⟨y711, hy712, h⟩ := bind_no h
    refine TA.eff 4 rfl (by kernel_rfl) rfl (TL.callV (Lin := []) (args := [.agg #[.slice A694 y685.f0.length c695, .int .i64 y685.f1.f0, .int .i64 y685.f1.f1, .int .i64 y685.f1.f2, .int .i64 y685.f1.f3]]) rfl rfl rfl hbd11 rfl rfl (deadstore_Block.calls (a0 := y685) (hr696.up e679) hl697 hy712) rfl ?_)
    rintro _ _ _ _ ⟨rfl, A713, c714, rfl, rfl⟩
    refine TA.next (fun W hO => hO.selT (Ls := [Blk b698 [.slice A694 y685.f0.length c695, .int .i64 y685.f1.f0, .int .i64 y685.f1.f1, .int .i64 y685.f1.f2, .int .i64 y685.f1.f3] 28, Blk b5 [.int .i64 a0.f0, .slice A436 l435.length c437] 36, Blk b6 [.int .i64 0, .slice none 0 0] 36]) [1, 2, 3] 4 rfl rfl rfl) ?_
    obtain ⟨y716, hy717, h⟩ := bind_no h
    obtain ⟨b718, hA719, hi720, hj721⟩ := Row.openedS hs680 (at_mixl hy717)
    refine TA.take 5 rfl (by kernel_rfl) rfl (PQ.inB (PQ.then_ (PQ.then_ (PQ.inB (PQ.then_ (PQ.then_ PQ.body)))))) rfl (Val.indexAddrW Try.underlying34 fsz28 rfl hA719 rfl hi720 hj721) (fun W hO => hO.selT (Ls := [Blk b698 [.slice A694 y685.f0.length c695, .int .i64 y685.f1.f0, .int .i64 y685.f1.f1, .int .i64 y685.f1.f2, .int .i64 y685.f1.f3] 28, Blk b5 [.int .i64 a0.f0, .slice A436 l435.length c437] 36, Blk b6 [.int .i64 0, .slice none 0 0] 36]) [1, 2, 3] 4 rfl rfl rfl) ?_
    refine TK.back hb681 ?_
    refine TK.sel (Ls := [Row k30 30 (.slice A713 y711.f0.length c714) y711.f0, Row (Tg G k28) 28 (.slice A436 l435.length c437) (mixl x440 l435), Blk b698 [.slice A694 y685.f0.length c695, .int .i64 y685.f1.f0, .int .i64 y685.f1.f1, .int .i64 y685.f1.f2, .int .i64 y685.f1.f3] 28, Blk b5 [.int .i64 a0.f0, .slice A436 l435.length c437] 36, Blk b6 [.int .i64 0, .slice none 0 0] 36]) [1, 0, 2, 3, 4] 5 rfl rfl rfl ?_
    refine TK.conv (ch' := El k28 y711 [.slice A713 y711.f0.length c714, .int .i64 y711.f1.f0, .int .i64 y711.f1.f1, .int .i64 y711.f1.f2, .int .i64 y711.f1.f3]) (fun B W F hh => k28_mkM W B F y711 hh) ?_
    refine TK.sel (Ls := [Row (Tg G k28) 28 (.slice A436 l435.length c437) (mixl x440 l435), El k28 y711 [.slice A713 y711.f0.length c714, .int .i64 y711.f1.f0, .int .i64 y711.f1.f1, .int .i64 y711.f1.f2, .int .i64 y711.f1.f3], Blk b698 [.slice A694 y685.f0.length c695, .int .i64 y685.f1.f0, .int .i64 y685.f1.f1, .int .i64 y685.f1.f2, .int .i64 y685.f1.f3] 28, Blk b5 [.int .i64 a0.f0, .slice A436 l435.length c437] 36, Blk b6 [.int .i64 0, .slice none 0 0] 36]) [1, 0, 2, 3, 4] 5 rfl rfl rfl ?_
    refine TA.eff 6 rfl (by kernel_rfl) rfl (TL.storeE (Tg G k28) (xs := (mixl x440 l435)) (xv := (y711, true)) (ds := [.slice A713 y711.f0.length c714, .int .i64 y711.f1.f0, .int .i64 y711.f1.f1, .int .i64 y711.f1.f2, .int .i64 y711.f1.f3]) rfl fsz28 hA719 (at_mixl hy717) rfl rfl rfl rfl (Nat.le_of_ble_eq_true rfl) (wholeMT rfl) ?_)
    refine TA.last rfl ?_
    refine TK.conv (ch' := Row (Tg G k28) 28 (.slice A436 l435.length c437) (mixl (IntKind.i64.wrap (x440 + 1)) (l435.set x440.toNat y711))) (fun B W F hh => Row.mixset hy717 hh) ?_
    rw [show (l435.length : Nat) = (l435.set x440.toNat y711).length from by simp only [List.length_set]]
    refine TA.done (by kernel_rfl) ?_
    refine TQ.inB ?_
    refine TQ.then_ ?_
    refine TC.region ?_
    refine TL.cons (TO.val rfl rfl rfl (Val.cmp rfl rfl run_add) ?_)
    refine TL.cons (TO.val rfl rfl rfl (Val.move rfl) ?_)
    refine TL.nil ?_
    exact fun a W hF hO => ⟨(l435.set x440.toNat y711), IntKind.i64.wrap (x440 + 1), A436, c437, h, (by first | rfl | assumption | omega | (simp only [List.length_set]; first | rfl | assumption | omega)), hF.sub ⟨rfl, rfl, rfl, rfl, rfl, trivial⟩, hO.selT (Ls := [Blk b5 [.int .i64 a0.f0, .slice A436 (l435.set x440.toNat y711).length c437] 36, Blk b6 [.int .i64 0, .slice none 0 0] 36, Row (Tg G k28) 28 (.slice A436 (l435.set x440.toNat y711).length c437) (mixl (IntKind.i64.wrap (x440 + 1)) (l435.set x440.toNat y711))]) [2, 3, 0] 4 rfl rfl rfl⟩
   ·
    refine TC.sel (Ls := [Row (Tg G k28) 28 (.slice A436 l435.length c437) (mixl x440 l435), Blk b5 [.int .i64 a0.f0, .slice A436 l435.length c437] 36, Blk b6 [.int .i64 0, .slice none 0 0] 36]) [2, 0, 1] 3 rfl rfl rfl ?_
    refine TC.conv (ch' := Row k28 28 (.slice A436 l435.length c437) l435) (fun B W F hh => Row.mix1 (by omega) B W F hh) ?_
    refine TC.exit ?_
    refine TQ.thenX ?_
    refine TQ.thenX ?_
    refine TQ.inBX ?_
    exact fun a W hF hO => ⟨l435, A436, c437, Option.some.inj h, hF.sub ⟨rfl, rfl, trivial⟩, hO.selT (Ls := [Blk b5 [.int .i64 a0.f0, .slice A436 l435.length c437] 36, Blk b6 [.int .i64 0, .slice none 0 0] 36, Row k28 28 (.slice A436 l435.length c437) l435]) [1, 2, 0] 3 rfl rfl rfl⟩
end Go.Proofs.Ytmacdhkfgoahcaa.Sy
set_option linter.unusedVariables false
set_option linter.unusedSimpArgs false
namespace Go.Proofs.Ytmacdhkfgoahcaa.Sy
open Go Go.RowKit Go.Proofs.YtmacdhkfgoahcaaW.PrintWords Go.Proofs.Ytmacdhkfgoahcaa.Q Go.Proofs.Ytmacdhkfgoahcaa.Fo Go.Proofs.Ytmacdhkfgoahcaa.De
def kb (b : S28) : S28 := ⟨keep b.f0, b.f1⟩
theorem func_l0 (y : List S28) (hl : y.length ≤ 40) (hf : ∀ b ∈ y, Fit b.f0) : ∀ (r : List S28) (k fuel : Nat), y.drop k = r → r.length < fuel → deadstore_Func.l0 y fuel ((y.take k).map kb ++ r) k = some (y.map kb)
  | _, _, 0, _, h => by omega
  | [], k, fuel + 1, h, _ => by
    have := drop_nil h
    unfold deadstore_Func.l0
    rw [if_neg (by omega), List.take_of_length_le this, List.append_nil]
  | b :: r, k, fuel + 1, h, hfu => by
    obtain ⟨h1, h2, h3⟩ := drop_cons h
    simp only [List.length_cons] at hfu
    have hlen : ((y.take k).map kb).length = k := by simp; omega
    have hat : ((y.take k).map kb ++ b :: r)[k]? = some b := by
      rw [List.getElem?_append_right (by omega), hlen, Nat.sub_self]; rfl
    unfold deadstore_Func.l0
    rw [if_pos (by omega), at_nat, hat]
    simp only [Option.bind_some]
    rw [block_f (hf b (List.mem_of_getElem? h1))]
    simp only [Option.bind_some, Int.toNat_natCast]
    rw [wrap_succ (by omega)]
    have hset : ((y.take k).map kb ++ b :: r).set k ⟨keep b.f0, b.f1⟩ = (y.take (k + 1)).map kb ++ r := by
      rw [List.set_append_right _ _ (by omega), hlen, Nat.sub_self, List.set_cons_zero, List.take_add_one, h1]
      simp [kb]
    rw [hset, func_l0 y hl hf r (k + 1) fuel h3 (by omega)]
theorem func_f {a0 : S36} (hl : a0.f1.length ≤ 40) (hf : ∀ b ∈ a0.f1, Fit b.f0) : deadstore_Func.f a0 = some ⟨a0.f0, a0.f1.map kb⟩ := by
  unfold deadstore_Func.f slices_Clone_api_Block_api_Block.f
  rw [if_pos (by simp; omega)]
  simp only [Option.bind_some, List.nil_append]
  have q := func_l0 a0.f1 hl hf a0.f1 0 (a0.f1.length + 1) (by simp) (by omega)
  simp only [List.take_zero, List.map_nil, List.nil_append] at q
  have q' : deadstore_Func.l0 a0.f1 (a0.f1.length + 1) a0.f1 0 = _ := q
  rw [q']
  rfl
end Go.Proofs.Ytmacdhkfgoahcaa.Sy
set_option linter.unusedVariables false
set_option linter.unusedSimpArgs false
set_option maxRecDepth 100000
set_option maxHeartbeats 4000000
namespace Go.Proofs.Ytmacdhkfgoahcaa.Sy
open Go Go.RowKit Go.Proofs.YtmacdhkfgoahcaaW.PrintWords Go.Proofs.Ytmacdhkfgoahcaa.Q
def swagelaw23_some.f : Option S28 := some (⟨([(⟨5, 0, 1, 2, 0, ([] : List Int)⟩ : S30), (⟨1, 3, 0, 0, 1, ([] : List Int)⟩ : S30), (⟨5, 0, 1, 3, 0, ([] : List Int)⟩ : S30)] : List S30), (⟨3, 3, 0, 0⟩ : S25)⟩ : S28)
def swagelaw23_some.post (G : Gd)  (r : S28) (v : Value) (G' : Gd) (Lr : List Ch) : Prop := G = G' ∧ ∃ (A_1 : Option Addr) (c_1 : Nat), v = .agg #[.slice A_1 r.f0.length c_1, .int .i64 r.f1.f0, .int .i64 r.f1.f1, .int .i64 r.f1.f2, .int .i64 r.f1.f3] ∧ Lr = [Row k30 30 (.slice A_1 r.f0.length c_1) r.f0]
theorem swagelaw23_some.calls {G : Gd} {r : S28} (h : swagelaw23_some.f = some r) : Fn Try.prog 33 G [] [] (swagelaw23_some.post G  r) := by
 refine Fn.intro (e := []) 7 Try.func33 rfl Try.ntmps33 rfl rfl (Nat.le_of_ble_eq_true rfl) (fun L => ?_)
 unfold swagelaw23_some.f at h
 refine TC.seq ?_
 refine TC.region ?_
 refine TL.cons (TL.alloc (cs := [.slice none 0 0, .int .i64 0, .int .i64 0, .int .i64 0, .int .i64 0]) rfl rfl zr28 rfl (fun b1 => ?_))
 refine TL.nil ?_
 refine TQ.then_ ?_
 refine TC.seq ?_
 refine TC.region ?_
 refine TL.cons (TO.val rfl rfl rfl (Val.build (cs := [.int .i64 5, .int .i64 0, .int .i64 1, .int .i64 2, .int .i64 0, .slice none 0 0]) (is := [0, 2, 3]) (xs := [.const (.int .i64 5), .const (.int .i64 1), .const (.int .i64 2)]) Try.underlying30 zr30 bld30 rfl rfl rfl rfl) ?_)
 refine TL.cons (TO.val rfl rfl rfl (Val.build (cs := [.int .i64 1, .int .i64 3, .int .i64 0, .int .i64 0, .int .i64 1, .slice none 0 0]) (is := [0, 1, 4]) (xs := [.const (.int .i64 1), .const (.int .i64 3), .const (.int .i64 1)]) Try.underlying30 zr30 bld30 rfl rfl rfl rfl) ?_)
 refine TL.cons (TO.val rfl rfl rfl (Val.build (cs := [.int .i64 5, .int .i64 0, .int .i64 1, .int .i64 3, .int .i64 0, .slice none 0 0]) (is := [0, 2, 3]) (xs := [.const (.int .i64 5), .const (.int .i64 1), .const (.int .i64 3)]) Try.underlying30 zr30 bld30 rfl rfl rfl rfl) ?_)
 refine TL.cons (TL.buildSlice (xs := [.tmp 1, .tmp 2, .tmp 3]) (vs := [.agg #[.int .i64 5, .int .i64 0, .int .i64 1, .int .i64 2, .int .i64 0, .slice none 0 0], .agg #[.int .i64 1, .int .i64 3, .int .i64 0, .int .i64 0, .int .i64 1, .slice none 0 0], .agg #[.int .i64 5, .int .i64 0, .int .i64 1, .int .i64 3, .int .i64 0, .slice none 0 0]]) (cs := [.int .i64 5, .int .i64 0, .int .i64 1, .int .i64 2, .int .i64 0, .slice none 0 0, .int .i64 1, .int .i64 3, .int .i64 0, .int .i64 0, .int .i64 1, .slice none 0 0, .int .i64 5, .int .i64 0, .int .i64 1, .int .i64 3, .int .i64 0, .slice none 0 0]) rfl rfl Try.underlying26 zs30 rfl rfl rfl rfl rfl rfl rfl rfl (fun b2 => ?_))
 refine TL.cons (TO.val rfl rfl rfl (Val.build (cs := [.int .i64 3, .int .i64 3, .int .i64 0, .int .i64 0]) (is := [0, 1]) (xs := [.const (.int .i64 3), .const (.int .i64 3)]) Try.underlying25 zr25 bld25 rfl rfl rfl rfl) ?_)
 refine TL.cons (TO.val rfl rfl rfl (Val.build (cs := [.slice (some ⟨b2, 0, none⟩) 3 3, .int .i64 3, .int .i64 3, .int .i64 0, .int .i64 0]) (is := [0, 1]) (xs := [.tmp 4, .tmp 5]) Try.underlying28 zr28 bld28 rfl rfl rfl rfl) ?_)
 refine TL.cons (TL.store 1 (ds := [.slice (some ⟨b2, 0, none⟩) 3 3, .int .i64 3, .int .i64 3, .int .i64 0, .int .i64 0]) (cs' := [.slice (some ⟨b2, 0, none⟩) 3 3, .int .i64 3, .int .i64 3, .int .i64 0, .int .i64 0]) (L' := (Blk b2 [.int .i64 5, .int .i64 0, .int .i64 1, .int .i64 2, .int .i64 0, .slice none 0 0, .int .i64 1, .int .i64 3, .int .i64 0, .int .i64 0, .int .i64 1, .slice none 0 0, .int .i64 5, .int .i64 0, .int .i64 1, .int .i64 3, .int .i64 0, .slice none 0 0] 30 :: Blk b1 [.slice (some ⟨b2, 0, none⟩) 3 3, .int .i64 3, .int .i64 3, .int .i64 0, .int .i64 0] 28 :: L)) rfl fsz28 rfl rfl rfl rfl rfl (Nat.le_of_ble_eq_true rfl) rfl rfl ?_)
 refine TL.nil ?_
 refine TQ.then_ ?_
 refine TC.ret ?_
 refine TQ.new (Els.nil k30) ?_
 refine TQ.new (Row.nil (Kd.int .i64) 3) ?_
 refine TQ.conv (ch' := El k30 (⟨5, 0, 1, 2, 0, ([] : List Int)⟩ : S30) [.int .i64 5, .int .i64 0, .int .i64 1, .int .i64 2, .int .i64 0, .slice none 0 0]) (fun B W F hh => k30_mkM W B F (⟨5, 0, 1, 2, 0, ([] : List Int)⟩ : S30) hh) ?_
 refine TQ.sel (Ls := [Els k30 [] [], El k30 (⟨5, 0, 1, 2, 0, ([] : List Int)⟩ : S30) [.int .i64 5, .int .i64 0, .int .i64 1, .int .i64 2, .int .i64 0, .slice none 0 0], Blk b2 [.int .i64 5, .int .i64 0, .int .i64 1, .int .i64 2, .int .i64 0, .slice none 0 0, .int .i64 1, .int .i64 3, .int .i64 0, .int .i64 0, .int .i64 1, .slice none 0 0, .int .i64 5, .int .i64 0, .int .i64 1, .int .i64 3, .int .i64 0, .slice none 0 0] 30, Blk b1 [.slice (some ⟨b2, 0, none⟩) 3 3, .int .i64 3, .int .i64 3, .int .i64 0, .int .i64 0] 28]) [1, 0, 2, 3] 4 rfl rfl rfl ?_
 refine TQ.two (ch := Els k30 [(⟨5, 0, 1, 2, 0, ([] : List Int)⟩ : S30)] [.int .i64 5, .int .i64 0, .int .i64 1, .int .i64 2, .int .i64 0, .slice none 0 0]) (Els.snoc k30) ?_
 refine TQ.new (Row.nil (Kd.int .i64) 3) ?_
 refine TQ.conv (ch' := El k30 (⟨1, 3, 0, 0, 1, ([] : List Int)⟩ : S30) [.int .i64 1, .int .i64 3, .int .i64 0, .int .i64 0, .int .i64 1, .slice none 0 0]) (fun B W F hh => k30_mkM W B F (⟨1, 3, 0, 0, 1, ([] : List Int)⟩ : S30) hh) ?_
 refine TQ.sel (Ls := [Els k30 [(⟨5, 0, 1, 2, 0, ([] : List Int)⟩ : S30)] [.int .i64 5, .int .i64 0, .int .i64 1, .int .i64 2, .int .i64 0, .slice none 0 0], El k30 (⟨1, 3, 0, 0, 1, ([] : List Int)⟩ : S30) [.int .i64 1, .int .i64 3, .int .i64 0, .int .i64 0, .int .i64 1, .slice none 0 0], Blk b2 [.int .i64 5, .int .i64 0, .int .i64 1, .int .i64 2, .int .i64 0, .slice none 0 0, .int .i64 1, .int .i64 3, .int .i64 0, .int .i64 0, .int .i64 1, .slice none 0 0, .int .i64 5, .int .i64 0, .int .i64 1, .int .i64 3, .int .i64 0, .slice none 0 0] 30, Blk b1 [.slice (some ⟨b2, 0, none⟩) 3 3, .int .i64 3, .int .i64 3, .int .i64 0, .int .i64 0] 28]) [1, 0, 2, 3] 4 rfl rfl rfl ?_
 refine TQ.two (ch := Els k30 [(⟨5, 0, 1, 2, 0, ([] : List Int)⟩ : S30), (⟨1, 3, 0, 0, 1, ([] : List Int)⟩ : S30)] [.int .i64 5, .int .i64 0, .int .i64 1, .int .i64 2, .int .i64 0, .slice none 0 0, .int .i64 1, .int .i64 3, .int .i64 0, .int .i64 0, .int .i64 1, .slice none 0 0]) (Els.snoc k30) ?_
 refine TQ.new (Row.nil (Kd.int .i64) 3) ?_
 refine TQ.conv (ch' := El k30 (⟨5, 0, 1, 3, 0, ([] : List Int)⟩ : S30) [.int .i64 5, .int .i64 0, .int .i64 1, .int .i64 3, .int .i64 0, .slice none 0 0]) (fun B W F hh => k30_mkM W B F (⟨5, 0, 1, 3, 0, ([] : List Int)⟩ : S30) hh) ?_
 refine TQ.sel (Ls := [Els k30 [(⟨5, 0, 1, 2, 0, ([] : List Int)⟩ : S30), (⟨1, 3, 0, 0, 1, ([] : List Int)⟩ : S30)] [.int .i64 5, .int .i64 0, .int .i64 1, .int .i64 2, .int .i64 0, .slice none 0 0, .int .i64 1, .int .i64 3, .int .i64 0, .int .i64 0, .int .i64 1, .slice none 0 0], El k30 (⟨5, 0, 1, 3, 0, ([] : List Int)⟩ : S30) [.int .i64 5, .int .i64 0, .int .i64 1, .int .i64 3, .int .i64 0, .slice none 0 0], Blk b2 [.int .i64 5, .int .i64 0, .int .i64 1, .int .i64 2, .int .i64 0, .slice none 0 0, .int .i64 1, .int .i64 3, .int .i64 0, .int .i64 0, .int .i64 1, .slice none 0 0, .int .i64 5, .int .i64 0, .int .i64 1, .int .i64 3, .int .i64 0, .slice none 0 0] 30, Blk b1 [.slice (some ⟨b2, 0, none⟩) 3 3, .int .i64 3, .int .i64 3, .int .i64 0, .int .i64 0] 28]) [1, 0, 2, 3] 4 rfl rfl rfl ?_
 refine TQ.two (ch := Els k30 [(⟨5, 0, 1, 2, 0, ([] : List Int)⟩ : S30), (⟨1, 3, 0, 0, 1, ([] : List Int)⟩ : S30), (⟨5, 0, 1, 3, 0, ([] : List Int)⟩ : S30)] [.int .i64 5, .int .i64 0, .int .i64 1, .int .i64 2, .int .i64 0, .slice none 0 0, .int .i64 1, .int .i64 3, .int .i64 0, .int .i64 0, .int .i64 1, .slice none 0 0, .int .i64 5, .int .i64 0, .int .i64 1, .int .i64 3, .int .i64 0, .slice none 0 0]) (Els.snoc k30) ?_
 refine TQ.sel (Ls := [Blk b2 [.int .i64 5, .int .i64 0, .int .i64 1, .int .i64 2, .int .i64 0, .slice none 0 0, .int .i64 1, .int .i64 3, .int .i64 0, .int .i64 0, .int .i64 1, .slice none 0 0, .int .i64 5, .int .i64 0, .int .i64 1, .int .i64 3, .int .i64 0, .slice none 0 0] 30, Els k30 [(⟨5, 0, 1, 2, 0, ([] : List Int)⟩ : S30), (⟨1, 3, 0, 0, 1, ([] : List Int)⟩ : S30), (⟨5, 0, 1, 3, 0, ([] : List Int)⟩ : S30)] [.int .i64 5, .int .i64 0, .int .i64 1, .int .i64 2, .int .i64 0, .slice none 0 0, .int .i64 1, .int .i64 3, .int .i64 0, .int .i64 0, .int .i64 1, .slice none 0 0, .int .i64 5, .int .i64 0, .int .i64 1, .int .i64 3, .int .i64 0, .slice none 0 0], Blk b1 [.slice (some ⟨b2, 0, none⟩) 3 3, .int .i64 3, .int .i64 3, .int .i64 0, .int .i64 0] 28]) [1, 0, 2] 3 rfl rfl rfl ?_
 refine TQ.two (ch := Row k30 30 (.slice (some ⟨b2, 0, none⟩) 3 3) ([(⟨5, 0, 1, 2, 0, ([] : List Int)⟩ : S30), (⟨1, 3, 0, 0, 1, ([] : List Int)⟩ : S30), (⟨5, 0, 1, 3, 0, ([] : List Int)⟩ : S30)] : List S30)) (Row.lit k30 rfl rfl) ?_
 obtain rfl := Option.some.inj h
 exact TQ.fin (.inl rfl) rfl Try.results33 (.cells 1 rfl rfl agg28 fsz28 .nil) rfl (FRel.mk (Ls := [Row k30 30 (.slice (some ⟨b2, 0, none⟩) 3 3) ([(⟨5, 0, 1, 2, 0, ([] : List Int)⟩ : S30), (⟨1, 3, 0, 0, 1, ([] : List Int)⟩ : S30), (⟨5, 0, 1, 3, 0, ([] : List Int)⟩ : S30)] : List S30)]) [0] 2 (Gd.le.refl _) rfl rfl rfl ⟨rfl, (some ⟨b2, 0, none⟩), 3, rfl, rfl⟩)
end Go.Proofs.Ytmacdhkfgoahcaa.Sy
set_option linter.unusedVariables false
set_option linter.unusedSimpArgs false
set_option maxRecDepth 100000
set_option maxHeartbeats 4000000
namespace Go.Proofs.Ytmacdhkfgoahcaa.Sy
open Go Go.RowKit Go.Proofs.YtmacdhkfgoahcaaW.PrintWords Go.Proofs.Ytmacdhkfgoahcaa.Q
def swagelaw23_small.f : Option Bool := (swagelaw23_some.f).bind fun (y1 : S28) => (deadstore_Block.f y1).bind fun (y12 : S28) => (swagelaw23_some.f).bind fun (y109 : S28) => (deadstore_Dead.f y109).bind fun (y120 : (List Int)) => (swageref02_Ints.f y120 ([0] : List Int)).bind fun (y139 : Bool) => (if y139 = true then (if (y12.f0.length : Int) = 2 then (at? y12.f0 0).bind fun y151 => (if y151.f0 = 1 then (at? y12.f0 1).bind fun y166 => (if y166.f3 = 3 then (swagelaw23_some.f).bind fun (y181 : S28) => (deadstore_Stores.f (⟨0, ([y181] : List S28)⟩ : S36)).bind fun (y194 : Int) => some (decide (y194 = 2)) else some false) else some false) else some false) else some false)
def swagelaw23_small.post (G : Gd)  (r : Bool) (v : Value) (G' : Gd) (Lr : List Ch) : Prop := G = G' ∧ v = .bool r ∧ Lr = []
theorem swagelaw23_small.calls {G : Gd} {r : Bool} (h : swagelaw23_small.f = some r) : Fn Try.prog 9 G [] [] (swagelaw23_small.post G  r) := by
 refine Fn.intro (e := []) 37 Try.func9 rfl Try.ntmps9 rfl rfl (Nat.le_of_ble_eq_true rfl) (fun L => ?_)
 unfold swagelaw23_small.f at h
 refine TC.seq ?_
 refine TC.region ?_
 refine TL.cons (TO.val rfl rfl rfl (Val.assign rfl) ?_)
 refine TL.nil ?_
 refine TQ.then_ ?_
 refine TC.seq ?_
 refine TC.region ?_
 obtain ⟨y1, hy2, h⟩ := bind_no h
 refine TL.cons (TL.callV (Lin := []) (args := []) rfl rfl rfl hbd33 rfl rfl (swagelaw23_some.calls hy2) rfl ?_)
 rintro _ _ _ _ ⟨rfl, A3, c4, rfl, rfl⟩
 refine TK.share (fun G6 e7 hs8 hb9 => ?_)
 have rd10 : Rd G6 k30 A3 y1.f0 := Rd.row hs8
 have le11 : y1.f0.length ≤ c4 := Row.le hs8
 obtain ⟨y12, hy13, h⟩ := bind_no h
 refine TL.cons (TL.callV (Lin := []) (args := [.agg #[.slice A3 y1.f0.length c4, .int .i64 y1.f1.f0, .int .i64 y1.f1.f1, .int .i64 y1.f1.f2, .int .i64 y1.f1.f3]]) rfl rfl rfl hbd11 rfl rfl (deadstore_Block.calls (a0 := y1) rd10 le11 hy13) rfl ?_)
 rintro _ _ _ _ ⟨rfl, A14, c15, rfl, rfl⟩
 refine TL.cons (TL.alloc (cs := [.slice none 0 0, .int .i64 0, .int .i64 0, .int .i64 0, .int .i64 0]) rfl rfl zr28 rfl (fun b17 => ?_))
 refine TL.cons (TL.store 0 (ds := [.slice A14 y12.f0.length c15, .int .i64 y12.f1.f0, .int .i64 y12.f1.f1, .int .i64 y12.f1.f2, .int .i64 y12.f1.f3]) (cs' := [.slice A14 y12.f0.length c15, .int .i64 y12.f1.f0, .int .i64 y12.f1.f1, .int .i64 y12.f1.f2, .int .i64 y12.f1.f3]) (L' := (Blk b17 [.slice A14 y12.f0.length c15, .int .i64 y12.f1.f0, .int .i64 y12.f1.f1, .int .i64 y12.f1.f2, .int .i64 y12.f1.f3] 28 :: Row k30 30 (.slice A14 y12.f0.length c15) y12.f0 :: L)) rfl fsz28 rfl rfl rfl rfl rfl (Nat.le_of_ble_eq_true rfl) rfl rfl ?_)
 refine TL.nil ?_
 refine TQ.then_ ?_
 refine TC.seq ?_
 refine TC.back hb9 ?_
 refine TC.region ?_
 obtain ⟨y109, hy110, h⟩ := bind_no h
 refine TL.cons (TL.callV (Lin := []) (args := []) rfl rfl rfl hbd33 rfl rfl (swagelaw23_some.calls hy110) rfl ?_)
 rintro _ _ _ _ ⟨rfl, A111, c112, rfl, rfl⟩
 refine TK.share (fun G114 e115 hs116 hb117 => ?_)
 have rd118 : Rd G114 k30 A111 y109.f0 := Rd.row hs116
 have le119 : y109.f0.length ≤ c112 := Row.le hs116
 obtain ⟨y120, hy121, h⟩ := bind_no h
 refine TL.cons (TL.callV (Lin := []) (args := [.agg #[.slice A111 y109.f0.length c112, .int .i64 y109.f1.f0, .int .i64 y109.f1.f1, .int .i64 y109.f1.f2, .int .i64 y109.f1.f3]]) rfl rfl rfl hbd10 rfl rfl (deadstore_Dead.calls (a0 := y109) rd118 le119 hy121) rfl ?_)
 rintro _ _ _ _ ⟨rfl, A122, c123, rfl, rfl⟩
 refine TL.cons (TL.buildSlice (xs := [.const (.int .i64 0)]) (vs := [.int .i64 0]) (cs := [.int .i64 0]) rfl rfl Try.underlying22 zs3 rfl rfl rfl rfl rfl rfl rfl rfl (fun b125 => ?_))
 refine TK.sel (Ls := [Row (Kd.int .i64) 3 (.slice A122 y120.length c123) y120, Blk b125 [.int .i64 0] 3, Row k30 30 (.slice A3 y1.f0.length c4) y1.f0, Blk b17 [.slice A14 y12.f0.length c15, .int .i64 y12.f1.f0, .int .i64 y12.f1.f1, .int .i64 y12.f1.f2, .int .i64 y12.f1.f3] 28, Row k30 30 (.slice A14 y12.f0.length c15) y12.f0]) [1, 0, 2, 3, 4] 5 rfl rfl rfl ?_
 refine TK.share (fun G126 e127 hs128 hb129 => ?_)
 have rd130 : Rd G126 (Kd.int .i64) A122 y120 := Rd.row hs128
 have le131 : y120.length ≤ c123 := Row.le hs128
 refine TK.new (Els.nil (Kd.int .i64)) ?_
 refine TK.new (El.of (k := (Kd.int .i64)) (xv := 0) (cs := [.int .i64 0]) (fun W B => rfl)) ?_
 refine TK.sel (Ls := [Els (Kd.int .i64) [] [], El (Kd.int .i64) 0 [.int .i64 0], Blk b125 [.int .i64 0] 3, Row k30 30 (.slice A3 y1.f0.length c4) y1.f0, Blk b17 [.slice A14 y12.f0.length c15, .int .i64 y12.f1.f0, .int .i64 y12.f1.f1, .int .i64 y12.f1.f2, .int .i64 y12.f1.f3] 28, Row k30 30 (.slice A14 y12.f0.length c15) y12.f0]) [1, 0, 2, 3, 4, 5] 6 rfl rfl rfl ?_
 refine TK.two (ch := Els (Kd.int .i64) [0] [.int .i64 0]) (Els.snoc (Kd.int .i64)) ?_
 refine TK.sel (Ls := [Blk b125 [.int .i64 0] 3, Els (Kd.int .i64) [0] [.int .i64 0], Row k30 30 (.slice A3 y1.f0.length c4) y1.f0, Blk b17 [.slice A14 y12.f0.length c15, .int .i64 y12.f1.f0, .int .i64 y12.f1.f1, .int .i64 y12.f1.f2, .int .i64 y12.f1.f3] 28, Row k30 30 (.slice A14 y12.f0.length c15) y12.f0]) [1, 0, 2, 3, 4] 5 rfl rfl rfl ?_
 refine TK.two (ch := Row (Kd.int .i64) 3 (.slice (some ⟨b125, 0, none⟩) 1 1) ([0] : List Int)) (Row.lit (Kd.int .i64) rfl rfl) ?_
 refine TK.share (fun G133 e134 hs135 hb136 => ?_)
 have rd137 : Rd G133 (Kd.int .i64) (some ⟨b125, 0, none⟩) ([0] : List Int) := Rd.row hs135
 have le138 : ([0] : List Int).length ≤ 1 := Row.le hs135
 obtain ⟨y139, hy140, h⟩ := bind_no h
 refine TL.cons (TL.callV (Lin := []) (args := [.slice A122 y120.length c123, .slice (some ⟨b125, 0, none⟩) 1 1]) rfl rfl rfl hbd19 rfl rfl (swageref02_Ints.calls (a0 := y120) (a1 := ([0] : List Int)) (rd130.up e134) le131 rd137 le138 hy140) rfl ?_)
 rintro _ _ _ _ ⟨rfl, rfl, rfl⟩
 refine TL.cons (TO.val rfl rfl rfl (Val.move rfl) ?_)
 refine TK.split (p := y139 = true) h (fun hg141 h => ?_) (fun hg141 h => ?_)
 ·
  have hk142 : y139 = true := hg141
  refine TL.cons (TO.val (Wt.yes rfl rfl rfl hk142) rfl rfl (Val.fieldAddrB Try.underlying28 rfl fsz26 rfl rfl rfl) ?_)
  refine TL.cons (TO.val (Wt.yes rfl rfl rfl hk142) rfl rfl (Val.loadB 1 agg26 rfl rfl rfl) ?_)
  refine TL.cons (TO.val (Wt.yes rfl rfl rfl hk142) rfl rfl (Val.len Try.underlying26 rfl) ?_)
  refine TL.cons (TO.val (Wt.yes rfl rfl rfl hk142) rfl rfl (Val.cmp rfl rfl run_eql) ?_)
  refine TL.cons (TO.val rfl rfl rfl (Val.pickY rfl hk142 rfl) ?_)
  refine TL.cons (TO.val rfl rfl rfl (Val.move rfl) ?_)
  refine TK.split (p := (y12.f0.length : Int) = 2) h (fun hg143 h => ?_) (fun hg143 h => ?_)
  ·
   have hk144 : decide ((y12.f0.length : Int) = 2) = true := decide_eq_true hg143
   refine TL.cons (TO.val (Wt.yes rfl rfl rfl hk144) rfl rfl (Val.fieldAddrB Try.underlying28 rfl fsz26 rfl rfl rfl) ?_)
   refine TL.cons (TO.val (Wt.yes rfl rfl rfl hk144) rfl rfl (Val.loadB 1 agg26 rfl rfl rfl) ?_)
   refine TK.sel (Ls := [Row k30 30 (.slice A14 y12.f0.length c15) y12.f0, Row k30 30 (.slice A3 y1.f0.length c4) y1.f0, Blk b17 [.slice A14 y12.f0.length c15, .int .i64 y12.f1.f0, .int .i64 y12.f1.f1, .int .i64 y12.f1.f2, .int .i64 y12.f1.f3] 28]) [2, 0, 1] 3 rfl rfl rfl ?_
   refine TK.share (fun G145 e146 hs147 hb148 => ?_)
   have rd149 : Rd G145 k30 A14 y12.f0 := Rd.row hs147
   have le150 : y12.f0.length ≤ c15 := Row.le hs147
   obtain ⟨y151, hx152, h⟩ := bind_no h
   obtain ⟨ad153, cs159, hA154, hi155, hj156, hcl157, hK158⟩ := Rd.at rd149 hx152
   obtain ⟨A160, c161, rfl, hr162, hl163⟩ := k30_openR hK158
   refine TL.cons (TO.val (Wt.yes rfl rfl rfl hk144) rfl rfl (Val.indexAddr Try.underlying26 fsz30 rfl hA154 rfl hi155 hj156) ?_)
   refine TL.cons (TO.val (Wt.yes rfl rfl rfl hk144) rfl rfl (Val.fieldAddrE Try.underlying30 rfl fsz3 rfl rfl) ?_)
   refine TL.cons (TO.val (Wt.yes rfl rfl rfl hk144) rfl rfl (Val.loadS agg3 rfl (hcl157 0 _ rfl)) ?_)
   refine TL.cons (TO.val (Wt.yes rfl rfl rfl hk144) rfl rfl (Val.cmp rfl rfl run_eql) ?_)
   refine TL.cons (TO.val rfl rfl rfl (Val.pickY rfl hk144 rfl) ?_)
   refine TL.cons (TO.val rfl rfl rfl (Val.move rfl) ?_)
   refine TK.split (p := y151.f0 = 1) h (fun hg164 h => ?_) (fun hg164 h => ?_)
   ·
    have hk165 : decide (y151.f0 = 1) = true := decide_eq_true hg164
    refine TL.cons (TO.val (Wt.yes rfl rfl rfl hk165) rfl rfl (Val.fieldAddrB Try.underlying28 rfl fsz26 rfl rfl rfl) ?_)
    refine TL.cons (TO.val (Wt.yes rfl rfl rfl hk165) rfl rfl (Val.loadB 1 agg26 rfl rfl rfl) ?_)
    obtain ⟨y166, hx167, h⟩ := bind_no h
    obtain ⟨ad168, cs174, hA169, hi170, hj171, hcl172, hK173⟩ := Rd.at rd149 hx167
    obtain ⟨A175, c176, rfl, hr177, hl178⟩ := k30_openR hK173
    refine TL.cons (TO.val (Wt.yes rfl rfl rfl hk165) rfl rfl (Val.indexAddr Try.underlying26 fsz30 rfl hA169 rfl hi170 hj171) ?_)
    refine TL.cons (TO.val (Wt.yes rfl rfl rfl hk165) rfl rfl (Val.fieldAddrE Try.underlying30 rfl fsz3 rfl rfl) ?_)
    refine TL.cons (TO.val (Wt.yes rfl rfl rfl hk165) rfl rfl (Val.loadS agg3 rfl (hcl172 3 _ rfl)) ?_)
    refine TL.cons (TO.val (Wt.yes rfl rfl rfl hk165) rfl rfl (Val.cmp rfl rfl run_eql) ?_)
    refine TL.cons (TO.val rfl rfl rfl (Val.pickY rfl hk165 rfl) ?_)
    refine TL.cons (TO.val rfl rfl rfl (Val.move rfl) ?_)
    refine TK.split (p := y166.f3 = 3) h (fun hg179 h => ?_) (fun hg179 h => ?_)
    ·
     have hk180 : decide (y166.f3 = 3) = true := decide_eq_true hg179
     obtain ⟨y181, hy182, h⟩ := bind_no h
     refine TL.cons (TL.callV (Lin := []) (args := []) (Wt.yes rfl rfl rfl hk180) rfl rfl hbd33 rfl rfl (swagelaw23_some.calls hy182) rfl ?_)
     rintro _ _ _ _ ⟨rfl, A183, c184, rfl, rfl⟩
     refine TL.cons (TL.buildSlice (xs := [.tmp 31]) (vs := [.agg #[.slice A183 y181.f0.length c184, .int .i64 y181.f1.f0, .int .i64 y181.f1.f1, .int .i64 y181.f1.f2, .int .i64 y181.f1.f3]]) (cs := [.slice A183 y181.f0.length c184, .int .i64 y181.f1.f0, .int .i64 y181.f1.f1, .int .i64 y181.f1.f2, .int .i64 y181.f1.f3]) (Wt.yes rfl rfl rfl hk180) rfl Try.underlying34 zs28 rfl rfl rfl rfl rfl rfl rfl rfl (fun b186 => ?_))
     refine TL.cons (TO.val (Wt.yes rfl rfl rfl hk180) rfl rfl (Val.build (cs := [.int .i64 0, .slice (some ⟨b186, 0, none⟩) 1 1]) (is := [1]) (xs := [.tmp 32]) Try.underlying36 zr36 bld36 rfl rfl rfl rfl) ?_)
     refine TK.new (Els.nil k28) ?_
     refine TK.sel (Ls := [Row k30 30 (.slice A183 y181.f0.length c184) y181.f0, Els k28 [] [], Blk b186 [.slice A183 y181.f0.length c184, .int .i64 y181.f1.f0, .int .i64 y181.f1.f1, .int .i64 y181.f1.f2, .int .i64 y181.f1.f3] 28, Row k30 30 (.slice A3 y1.f0.length c4) y1.f0, Blk b17 [.slice A14 y12.f0.length c15, .int .i64 y12.f1.f0, .int .i64 y12.f1.f1, .int .i64 y12.f1.f2, .int .i64 y12.f1.f3] 28]) [2, 0, 1, 3, 4] 5 rfl rfl rfl ?_
     refine TK.conv (ch' := El k28 y181 [.slice A183 y181.f0.length c184, .int .i64 y181.f1.f0, .int .i64 y181.f1.f1, .int .i64 y181.f1.f2, .int .i64 y181.f1.f3]) (fun B W F hh => k28_mkM W B F y181 hh) ?_
     refine TK.sel (Ls := [Els k28 [] [], El k28 y181 [.slice A183 y181.f0.length c184, .int .i64 y181.f1.f0, .int .i64 y181.f1.f1, .int .i64 y181.f1.f2, .int .i64 y181.f1.f3], Blk b186 [.slice A183 y181.f0.length c184, .int .i64 y181.f1.f0, .int .i64 y181.f1.f1, .int .i64 y181.f1.f2, .int .i64 y181.f1.f3] 28, Row k30 30 (.slice A3 y1.f0.length c4) y1.f0, Blk b17 [.slice A14 y12.f0.length c15, .int .i64 y12.f1.f0, .int .i64 y12.f1.f1, .int .i64 y12.f1.f2, .int .i64 y12.f1.f3] 28]) [1, 0, 2, 3, 4] 5 rfl rfl rfl ?_
     refine TK.two (ch := Els k28 [y181] [.slice A183 y181.f0.length c184, .int .i64 y181.f1.f0, .int .i64 y181.f1.f1, .int .i64 y181.f1.f2, .int .i64 y181.f1.f3]) (Els.snoc k28) ?_
     refine TK.sel (Ls := [Blk b186 [.slice A183 y181.f0.length c184, .int .i64 y181.f1.f0, .int .i64 y181.f1.f1, .int .i64 y181.f1.f2, .int .i64 y181.f1.f3] 28, Els k28 [y181] [.slice A183 y181.f0.length c184, .int .i64 y181.f1.f0, .int .i64 y181.f1.f1, .int .i64 y181.f1.f2, .int .i64 y181.f1.f3], Row k30 30 (.slice A3 y1.f0.length c4) y1.f0, Blk b17 [.slice A14 y12.f0.length c15, .int .i64 y12.f1.f0, .int .i64 y12.f1.f1, .int .i64 y12.f1.f2, .int .i64 y12.f1.f3] 28]) [1, 0, 2, 3] 4 rfl rfl rfl ?_
     refine TK.two (ch := Row k28 28 (.slice (some ⟨b186, 0, none⟩) 1 1) ([y181] : List S28)) (Row.lit k28 rfl rfl) ?_
     refine TK.share (fun G188 e189 hs190 hb191 => ?_)
     have rd192 : Rd G188 k28 (some ⟨b186, 0, none⟩) ([y181] : List S28) := Rd.row hs190
     have le193 : ([y181] : List S28).length ≤ 1 := Row.le hs190
     obtain ⟨y194, hy195, h⟩ := bind_no h
     refine TL.cons (TL.callV (Lin := []) (args := [.agg #[.int .i64 0, .slice (some ⟨b186, 0, none⟩) 1 1]]) (Wt.yes rfl rfl rfl hk180) rfl rfl hbd12 rfl rfl (deadstore_Stores.calls (a0 := (⟨0, ([y181] : List S28)⟩ : S36)) rd192 le193 hy195) rfl ?_)
     rintro _ _ _ _ ⟨rfl, rfl, rfl⟩
     refine TL.cons (TO.val (Wt.yes rfl rfl rfl hk180) rfl rfl (Val.cmp rfl rfl run_eql) ?_)
     refine TL.cons (TO.val rfl rfl rfl (Val.pickY rfl hk180 rfl) ?_)
     refine TL.cons (TO.val rfl rfl rfl (Val.assign rfl) ?_)
     refine TL.nil ?_
     refine TQ.then_ ?_
     refine TC.ret ?_
     refine TQ.back hb191 ?_
     refine TQ.back hb148 ?_
     refine TQ.back hb136 ?_
     refine TQ.back hb129 ?_
     refine TQ.back hb117 ?_
     obtain rfl := Option.some.inj h
     exact TQ.fin (.inl rfl) rfl Try.results9 (.tmp rfl .nil) rfl (FRel.mk (Ls := []) [] 7 (Gd.le.refl _) rfl rfl rfl ⟨rfl, rfl, rfl⟩)
    ·
     have hk196 : decide (y166.f3 = 3) = false := decide_eq_false hg179
     refine TL.cons (TL.not (Wt.no rfl rfl rfl hk196) rfl ?_)
     refine TL.cons (TL.not (Wt.no rfl rfl rfl hk196) rfl ?_)
     refine TL.cons (TL.not (Wt.no rfl rfl rfl hk196) rfl ?_)
     refine TL.cons (TL.not (Wt.no rfl rfl rfl hk196) rfl ?_)
     refine TL.cons (TL.not (Wt.no rfl rfl rfl hk196) rfl ?_)
     refine TL.cons (TO.val rfl rfl rfl (Val.pickN rfl hk196 rfl) ?_)
     refine TL.cons (TO.val rfl rfl rfl (Val.assign rfl) ?_)
     refine TL.nil ?_
     refine TQ.then_ ?_
     refine TC.ret ?_
     refine TQ.back hb148 ?_
     refine TQ.back hb136 ?_
     refine TQ.back hb129 ?_
     refine TQ.back hb117 ?_
     obtain rfl := Option.some.inj h
     exact TQ.fin (.inl rfl) rfl Try.results9 (.tmp rfl .nil) rfl (FRel.mk (Ls := []) [] 6 (Gd.le.refl _) rfl rfl rfl ⟨rfl, rfl, rfl⟩)
   ·
    have hk197 : decide (y151.f0 = 1) = false := decide_eq_false hg164
    refine TL.cons (TL.not (Wt.no rfl rfl rfl hk197) rfl ?_)
    refine TL.cons (TL.not (Wt.no rfl rfl rfl hk197) rfl ?_)
    refine TL.cons (TL.not (Wt.no rfl rfl rfl hk197) rfl ?_)
    refine TL.cons (TL.not (Wt.no rfl rfl rfl hk197) rfl ?_)
    refine TL.cons (TL.not (Wt.no rfl rfl rfl hk197) rfl ?_)
    refine TL.cons (TL.not (Wt.no rfl rfl rfl hk197) rfl ?_)
    refine TL.cons (TO.val rfl rfl rfl (Val.pickN rfl hk197 rfl) ?_)
    refine TL.cons (TO.val rfl rfl rfl (Val.move rfl) ?_)
    refine TL.cons (TL.not (Wt.no rfl rfl rfl rfl) rfl ?_)
    refine TL.cons (TL.not (Wt.no rfl rfl rfl rfl) rfl ?_)
    refine TL.cons (TL.not (Wt.no rfl rfl rfl rfl) rfl ?_)
    refine TL.cons (TL.not (Wt.no rfl rfl rfl rfl) rfl ?_)
    refine TL.cons (TL.not (Wt.no rfl rfl rfl rfl) rfl ?_)
    refine TL.cons (TO.val rfl rfl rfl (Val.pickN rfl rfl rfl) ?_)
    refine TL.cons (TO.val rfl rfl rfl (Val.assign rfl) ?_)
    refine TL.nil ?_
    refine TQ.then_ ?_
    refine TC.ret ?_
    refine TQ.back hb148 ?_
    refine TQ.back hb136 ?_
    refine TQ.back hb129 ?_
    refine TQ.back hb117 ?_
    obtain rfl := Option.some.inj h
    exact TQ.fin (.inl rfl) rfl Try.results9 (.tmp rfl .nil) rfl (FRel.mk (Ls := []) [] 6 (Gd.le.refl _) rfl rfl rfl ⟨rfl, rfl, rfl⟩)
  ·
   have hk198 : decide ((y12.f0.length : Int) = 2) = false := decide_eq_false hg143
   refine TL.cons (TL.not (Wt.no rfl rfl rfl hk198) rfl ?_)
   refine TL.cons (TL.not (Wt.no rfl rfl rfl hk198) rfl ?_)
   refine TL.cons (TL.not (Wt.no rfl rfl rfl hk198) rfl ?_)
   refine TL.cons (TL.not (Wt.no rfl rfl rfl hk198) rfl ?_)
   refine TL.cons (TL.not (Wt.no rfl rfl rfl hk198) rfl ?_)
   refine TL.cons (TL.not (Wt.no rfl rfl rfl hk198) rfl ?_)
   refine TL.cons (TO.val rfl rfl rfl (Val.pickN rfl hk198 rfl) ?_)
   refine TL.cons (TO.val rfl rfl rfl (Val.move rfl) ?_)
   refine TL.cons (TL.not (Wt.no rfl rfl rfl rfl) rfl ?_)
   refine TL.cons (TL.not (Wt.no rfl rfl rfl rfl) rfl ?_)
   refine TL.cons (TL.not (Wt.no rfl rfl rfl rfl) rfl ?_)
   refine TL.cons (TL.not (Wt.no rfl rfl rfl rfl) rfl ?_)
   refine TL.cons (TL.not (Wt.no rfl rfl rfl rfl) rfl ?_)
   refine TL.cons (TL.not (Wt.no rfl rfl rfl rfl) rfl ?_)
   refine TL.cons (TO.val rfl rfl rfl (Val.pickN rfl rfl rfl) ?_)
   refine TL.cons (TO.val rfl rfl rfl (Val.move rfl) ?_)
   refine TL.cons (TL.not (Wt.no rfl rfl rfl rfl) rfl ?_)
   refine TL.cons (TL.not (Wt.no rfl rfl rfl rfl) rfl ?_)
   refine TL.cons (TL.not (Wt.no rfl rfl rfl rfl) rfl ?_)
   refine TL.cons (TL.not (Wt.no rfl rfl rfl rfl) rfl ?_)
   refine TL.cons (TL.not (Wt.no rfl rfl rfl rfl) rfl ?_)
   refine TL.cons (TO.val rfl rfl rfl (Val.pickN rfl rfl rfl) ?_)
   refine TL.cons (TO.val rfl rfl rfl (Val.assign rfl) ?_)
   refine TL.nil ?_
   refine TQ.then_ ?_
   refine TC.ret ?_
   refine TQ.back hb136 ?_
   refine TQ.back hb129 ?_
   refine TQ.back hb117 ?_
   obtain rfl := Option.some.inj h
   exact TQ.fin (.inl rfl) rfl Try.results9 (.tmp rfl .nil) rfl (FRel.mk (Ls := []) [] 6 (Gd.le.refl _) rfl rfl rfl ⟨rfl, rfl, rfl⟩)
 ·
  have hk199 : y139 = false := (by simpa using hg141)
  refine TL.cons (TL.not (Wt.no rfl rfl rfl hk199) rfl ?_)
  refine TL.cons (TL.not (Wt.no rfl rfl rfl hk199) rfl ?_)
  refine TL.cons (TL.not (Wt.no rfl rfl rfl hk199) rfl ?_)
  refine TL.cons (TL.not (Wt.no rfl rfl rfl hk199) rfl ?_)
  refine TL.cons (TO.val rfl rfl rfl (Val.pickN rfl hk199 rfl) ?_)
  refine TL.cons (TO.val rfl rfl rfl (Val.move rfl) ?_)
  refine TL.cons (TL.not (Wt.no rfl rfl rfl rfl) rfl ?_)
  refine TL.cons (TL.not (Wt.no rfl rfl rfl rfl) rfl ?_)
  refine TL.cons (TL.not (Wt.no rfl rfl rfl rfl) rfl ?_)
  refine TL.cons (TL.not (Wt.no rfl rfl rfl rfl) rfl ?_)
  refine TL.cons (TL.not (Wt.no rfl rfl rfl rfl) rfl ?_)
  refine TL.cons (TL.not (Wt.no rfl rfl rfl rfl) rfl ?_)
  refine TL.cons (TO.val rfl rfl rfl (Val.pickN rfl rfl rfl) ?_)
  refine TL.cons (TO.val rfl rfl rfl (Val.move rfl) ?_)
  refine TL.cons (TL.not (Wt.no rfl rfl rfl rfl) rfl ?_)
  refine TL.cons (TL.not (Wt.no rfl rfl rfl rfl) rfl ?_)
  refine TL.cons (TL.not (Wt.no rfl rfl rfl rfl) rfl ?_)
  refine TL.cons (TL.not (Wt.no rfl rfl rfl rfl) rfl ?_)
  refine TL.cons (TL.not (Wt.no rfl rfl rfl rfl) rfl ?_)
  refine TL.cons (TL.not (Wt.no rfl rfl rfl rfl) rfl ?_)
  refine TL.cons (TO.val rfl rfl rfl (Val.pickN rfl rfl rfl) ?_)
  refine TL.cons (TO.val rfl rfl rfl (Val.move rfl) ?_)
  refine TL.cons (TL.not (Wt.no rfl rfl rfl rfl) rfl ?_)
  refine TL.cons (TL.not (Wt.no rfl rfl rfl rfl) rfl ?_)
  refine TL.cons (TL.not (Wt.no rfl rfl rfl rfl) rfl ?_)
  refine TL.cons (TL.not (Wt.no rfl rfl rfl rfl) rfl ?_)
  refine TL.cons (TL.not (Wt.no rfl rfl rfl rfl) rfl ?_)
  refine TL.cons (TO.val rfl rfl rfl (Val.pickN rfl rfl rfl) ?_)
  refine TL.cons (TO.val rfl rfl rfl (Val.assign rfl) ?_)
  refine TL.nil ?_
  refine TQ.then_ ?_
  refine TC.ret ?_
  refine TQ.back hb136 ?_
  refine TQ.back hb129 ?_
  refine TQ.back hb117 ?_
  obtain rfl := Option.some.inj h
  exact TQ.fin (.inl rfl) rfl Try.results9 (.tmp rfl .nil) rfl (FRel.mk (Ls := []) [] 6 (Gd.le.refl _) rfl rfl rfl ⟨rfl, rfl, rfl⟩)
end Go.Proofs.Ytmacdhkfgoahcaa.Sy
set_option linter.unusedVariables false
set_option linter.unusedSimpArgs false
set_option maxRecDepth 100000
set_option maxHeartbeats 4000000
namespace Go.Proofs.Ytmacdhkfgoahcaa.Sy
open Go Go.RowKit Go.Proofs.YtmacdhkfgoahcaaW.PrintWords Go.Proofs.Ytmacdhkfgoahcaa.Q
def swageref14_Pure.f (a0 : S30) : Option Bool := (if a0.f0 = 2 then (if (!decide (a0.f4 = 4)) = true then (if (!decide (a0.f4 = 5)) = true then (if (!decide (a0.f4 = 9)) = true then some (!decide (a0.f4 = 10)) else some false) else some false) else some false) else (if a0.f0 = 1 then some true else some (decide (a0.f0 = 3))))
def swageref14_Pure.post (G : Gd)  (r : Bool) (v : Value) (G' : Gd) (Lr : List Ch) : Prop := G = G' ∧ v = .bool r ∧ Lr = []
theorem swageref14_Pure.calls {G : Gd} {r : Bool} {a0 : S30} {A1 : Option Addr} {c2 : Nat} (hr3 : Rd G (Kd.int .i64) A1 a0.f5) (hl4 : a0.f5.length ≤ c2) (h : swageref14_Pure.f a0 = some r) : Fn Try.prog 64 G [] [.agg #[.int .i64 a0.f0, .int .i64 a0.f1, .int .i64 a0.f2, .int .i64 a0.f3, .int .i64 a0.f4, .slice A1 a0.f5.length c2]] (swageref14_Pure.post G  r) := by
 refine Fn.intro (e := [(0, .agg #[.int .i64 a0.f0, .int .i64 a0.f1, .int .i64 a0.f2, .int .i64 a0.f3, .int .i64 a0.f4, .slice A1 a0.f5.length c2])]) 32 Try.func64 rfl Try.ntmps64 rfl rfl (Nat.le_of_ble_eq_true rfl) (fun L => ?_)
 unfold swageref14_Pure.f at h
 refine TC.seq ?_
 refine TC.region ?_
 refine TL.cons (TL.box (cs := [.int .i64 a0.f0, .int .i64 a0.f1, .int .i64 a0.f2, .int .i64 a0.f3, .int .i64 a0.f4, .slice A1 a0.f5.length c2]) rfl rfl rfl rfl (fun b5 => ?_))
 refine TL.cons (TO.val rfl rfl rfl (Val.assign rfl) ?_)
 refine TL.nil ?_
 refine TQ.then_ ?_
 refine TC.seq ?_
 refine TC.seq ?_
 refine TC.region ?_
 refine TL.cons (TO.val rfl rfl rfl (Val.fieldAddrB Try.underlying30 rfl fsz3 rfl rfl rfl) ?_)
 refine TL.cons (TO.val rfl rfl rfl (Val.loadB 0 agg3 rfl rfl rfl) ?_)
 refine TL.cons (TO.val rfl rfl rfl (Val.cmp rfl rfl run_eql) ?_)
 refine TL.nil ?_
 refine TQ.then_ ?_
 refine TC.cond_p rfl h (fun hc25 h => ?_) (fun hc25 h => ?_)
 ·
  refine TC.seq ?_
  refine TC.region ?_
  refine TL.cons (TO.val rfl rfl rfl (Val.fieldAddrB Try.underlying30 rfl fsz3 rfl rfl rfl) ?_)
  refine TL.cons (TO.val rfl rfl rfl (Val.loadB 0 agg3 rfl rfl rfl) ?_)
  refine TL.cons (TO.val rfl rfl rfl (Val.cmp rfl rfl run_neq) ?_)
  refine TL.cons (TO.val rfl rfl rfl (Val.move rfl) ?_)
  refine TK.split (p := (!decide (a0.f4 = 4)) = true) h (fun hg35 h => ?_) (fun hg35 h => ?_)
  ·
   have hk36 : (!decide (a0.f4 = 4)) = true := hg35
   refine TL.cons (TO.val (Wt.yes rfl rfl rfl hk36) rfl rfl (Val.fieldAddrB Try.underlying30 rfl fsz3 rfl rfl rfl) ?_)
   refine TL.cons (TO.val (Wt.yes rfl rfl rfl hk36) rfl rfl (Val.loadB 0 agg3 rfl rfl rfl) ?_)
   refine TL.cons (TO.val (Wt.yes rfl rfl rfl hk36) rfl rfl (Val.cmp rfl rfl run_neq) ?_)
   refine TL.cons (TO.val rfl rfl rfl (Val.pickY rfl hk36 rfl) ?_)
   refine TL.cons (TO.val rfl rfl rfl (Val.move rfl) ?_)
   refine TK.split (p := (!decide (a0.f4 = 5)) = true) h (fun hg37 h => ?_) (fun hg37 h => ?_)
   ·
    have hk38 : (!decide (a0.f4 = 5)) = true := hg37
    refine TL.cons (TO.val (Wt.yes rfl rfl rfl hk38) rfl rfl (Val.fieldAddrB Try.underlying30 rfl fsz3 rfl rfl rfl) ?_)
    refine TL.cons (TO.val (Wt.yes rfl rfl rfl hk38) rfl rfl (Val.loadB 0 agg3 rfl rfl rfl) ?_)
    refine TL.cons (TO.val (Wt.yes rfl rfl rfl hk38) rfl rfl (Val.cmp rfl rfl run_neq) ?_)
    refine TL.cons (TO.val rfl rfl rfl (Val.pickY rfl hk38 rfl) ?_)
    refine TL.cons (TO.val rfl rfl rfl (Val.move rfl) ?_)
    refine TK.split (p := (!decide (a0.f4 = 9)) = true) h (fun hg39 h => ?_) (fun hg39 h => ?_)
    ·
     have hk40 : (!decide (a0.f4 = 9)) = true := hg39
     refine TL.cons (TO.val (Wt.yes rfl rfl rfl hk40) rfl rfl (Val.fieldAddrB Try.underlying30 rfl fsz3 rfl rfl rfl) ?_)
     refine TL.cons (TO.val (Wt.yes rfl rfl rfl hk40) rfl rfl (Val.loadB 0 agg3 rfl rfl rfl) ?_)
     refine TL.cons (TO.val (Wt.yes rfl rfl rfl hk40) rfl rfl (Val.cmp rfl rfl run_neq) ?_)
     refine TL.cons (TO.val rfl rfl rfl (Val.pickY rfl hk40 rfl) ?_)
     refine TL.cons (TO.val rfl rfl rfl (Val.assign rfl) ?_)
     refine TL.nil ?_
     refine TQ.then_ ?_
     refine TC.ret ?_
     refine TQ.thenR ?_
     obtain rfl := Option.some.inj h
     exact TQ.fin (.inl rfl) rfl Try.results64 (.tmp rfl .nil) rfl (FRel.mk (Ls := []) [] 1 (Gd.le.refl _) rfl rfl rfl ⟨rfl, rfl, rfl⟩)
    ·
     have hk41 : (!decide (a0.f4 = 9)) = false := (by simpa using hg39)
     refine TL.cons (TL.not (Wt.no rfl rfl rfl hk41) rfl ?_)
     refine TL.cons (TL.not (Wt.no rfl rfl rfl hk41) rfl ?_)
     refine TL.cons (TL.not (Wt.no rfl rfl rfl hk41) rfl ?_)
     refine TL.cons (TO.val rfl rfl rfl (Val.pickN rfl hk41 rfl) ?_)
     refine TL.cons (TO.val rfl rfl rfl (Val.assign rfl) ?_)
     refine TL.nil ?_
     refine TQ.then_ ?_
     refine TC.ret ?_
     refine TQ.thenR ?_
     obtain rfl := Option.some.inj h
     exact TQ.fin (.inl rfl) rfl Try.results64 (.tmp rfl .nil) rfl (FRel.mk (Ls := []) [] 1 (Gd.le.refl _) rfl rfl rfl ⟨rfl, rfl, rfl⟩)
   ·
    have hk42 : (!decide (a0.f4 = 5)) = false := (by simpa using hg37)
    refine TL.cons (TL.not (Wt.no rfl rfl rfl hk42) rfl ?_)
    refine TL.cons (TL.not (Wt.no rfl rfl rfl hk42) rfl ?_)
    refine TL.cons (TL.not (Wt.no rfl rfl rfl hk42) rfl ?_)
    refine TL.cons (TO.val rfl rfl rfl (Val.pickN rfl hk42 rfl) ?_)
    refine TL.cons (TO.val rfl rfl rfl (Val.move rfl) ?_)
    refine TL.cons (TL.not (Wt.no rfl rfl rfl rfl) rfl ?_)
    refine TL.cons (TL.not (Wt.no rfl rfl rfl rfl) rfl ?_)
    refine TL.cons (TL.not (Wt.no rfl rfl rfl rfl) rfl ?_)
    refine TL.cons (TO.val rfl rfl rfl (Val.pickN rfl rfl rfl) ?_)
    refine TL.cons (TO.val rfl rfl rfl (Val.assign rfl) ?_)
    refine TL.nil ?_
    refine TQ.then_ ?_
    refine TC.ret ?_
    refine TQ.thenR ?_
    obtain rfl := Option.some.inj h
    exact TQ.fin (.inl rfl) rfl Try.results64 (.tmp rfl .nil) rfl (FRel.mk (Ls := []) [] 1 (Gd.le.refl _) rfl rfl rfl ⟨rfl, rfl, rfl⟩)
  ·
   have hk43 : (!decide (a0.f4 = 4)) = false := (by simpa using hg35)
   refine TL.cons (TL.not (Wt.no rfl rfl rfl hk43) rfl ?_)
   refine TL.cons (TL.not (Wt.no rfl rfl rfl hk43) rfl ?_)
   refine TL.cons (TL.not (Wt.no rfl rfl rfl hk43) rfl ?_)
   refine TL.cons (TO.val rfl rfl rfl (Val.pickN rfl hk43 rfl) ?_)
   refine TL.cons (TO.val rfl rfl rfl (Val.move rfl) ?_)
   refine TL.cons (TL.not (Wt.no rfl rfl rfl rfl) rfl ?_)
   refine TL.cons (TL.not (Wt.no rfl rfl rfl rfl) rfl ?_)
   refine TL.cons (TL.not (Wt.no rfl rfl rfl rfl) rfl ?_)
   refine TL.cons (TO.val rfl rfl rfl (Val.pickN rfl rfl rfl) ?_)
   refine TL.cons (TO.val rfl rfl rfl (Val.move rfl) ?_)
   refine TL.cons (TL.not (Wt.no rfl rfl rfl rfl) rfl ?_)
   refine TL.cons (TL.not (Wt.no rfl rfl rfl rfl) rfl ?_)
   refine TL.cons (TL.not (Wt.no rfl rfl rfl rfl) rfl ?_)
   refine TL.cons (TO.val rfl rfl rfl (Val.pickN rfl rfl rfl) ?_)
   refine TL.cons (TO.val rfl rfl rfl (Val.assign rfl) ?_)
   refine TL.nil ?_
   refine TQ.then_ ?_
   refine TC.ret ?_
   refine TQ.thenR ?_
   obtain rfl := Option.some.inj h
   exact TQ.fin (.inl rfl) rfl Try.results64 (.tmp rfl .nil) rfl (FRel.mk (Ls := []) [] 1 (Gd.le.refl _) rfl rfl rfl ⟨rfl, rfl, rfl⟩)
 ·
  refine TC.skip ?_
  refine TQ.then_ ?_
  refine TC.seq ?_
  refine TC.region ?_
  refine TL.cons (TO.val rfl rfl rfl (Val.fieldAddrB Try.underlying30 rfl fsz3 rfl rfl rfl) ?_)
  refine TL.cons (TO.val rfl rfl rfl (Val.loadB 0 agg3 rfl rfl rfl) ?_)
  refine TL.cons (TO.val rfl rfl rfl (Val.cmp rfl rfl run_eql) ?_)
  refine TL.cons (TO.val rfl rfl rfl (Val.move rfl) ?_)
  refine TK.split (p := a0.f0 = 1) h (fun hg47 h => ?_) (fun hg47 h => ?_)
  ·
   have hk48 : decide (a0.f0 = 1) = true := decide_eq_true hg47
   refine TL.cons (TL.not (Wt.no rfl rfl rfl hk48) rfl ?_)
   refine TL.cons (TL.not (Wt.no rfl rfl rfl hk48) rfl ?_)
   refine TL.cons (TL.not (Wt.no rfl rfl rfl hk48) rfl ?_)
   refine TL.cons (TO.val rfl rfl rfl (Val.pickY rfl hk48 rfl) ?_)
   refine TL.cons (TO.val rfl rfl rfl (Val.assign rfl) ?_)
   refine TL.nil ?_
   refine TQ.then_ ?_
   refine TC.ret ?_
   obtain rfl := Option.some.inj h
   exact TQ.fin (.inl rfl) rfl Try.results64 (.tmp rfl .nil) rfl (FRel.mk (Ls := []) [] 1 (Gd.le.refl _) rfl rfl rfl ⟨rfl, rfl, rfl⟩)
  ·
   have hk49 : decide (a0.f0 = 1) = false := decide_eq_false hg47
   refine TL.cons (TO.val (Wt.yes rfl rfl rfl hk49) rfl rfl (Val.fieldAddrB Try.underlying30 rfl fsz3 rfl rfl rfl) ?_)
   refine TL.cons (TO.val (Wt.yes rfl rfl rfl hk49) rfl rfl (Val.loadB 0 agg3 rfl rfl rfl) ?_)
   refine TL.cons (TO.val (Wt.yes rfl rfl rfl hk49) rfl rfl (Val.cmp rfl rfl run_eql) ?_)
   refine TL.cons (TO.val rfl rfl rfl (Val.pickN rfl hk49 rfl) ?_)
   refine TL.cons (TO.val rfl rfl rfl (Val.assign rfl) ?_)
   refine TL.nil ?_
   refine TQ.then_ ?_
   refine TC.ret ?_
   obtain rfl := Option.some.inj h
   exact TQ.fin (.inl rfl) rfl Try.results64 (.tmp rfl .nil) rfl (FRel.mk (Ls := []) [] 1 (Gd.le.refl _) rfl rfl rfl ⟨rfl, rfl, rfl⟩)
end Go.Proofs.Ytmacdhkfgoahcaa.Sy
