/- Texts of this work, joined: SyLib, SyKT, SyOp, SyF28, SyF8, SyF9, SyF29, SyF10, SyF11, SyF12, SyF19, TyA, SyF41, SyF31, SyF15, SyF30, SyF32, SyF33, SyF16, SyF17, SyF18. -/
import Derived.Test.YtdklnjmdaecboaaDoorSyMM
import Derived.Sort.Grow
import Derived.Test.YtdklnjmdaecboaaDoorShelfS
import Derived.Test.YtdklnjmdaecboaaDoorProg
set_option linter.unusedVariables false
set_option linter.unusedSimpArgs false
namespace Go.Proofs.YtdklnjmdaecboaaDoor.Sy
open Go Go.RowKit Go.Proofs.YtdklnjmdaecboaaDoorW.PrintWords Go.Sort
/-- The table of the powers of ten, as start-up lays it. -/
def Tab (G : Gd) : Prop := ∀ W, G.ok W → Lib.TabIs Tryd.prog W "internal/strconv.uint64pow10" .u64 Lib.pow10Tab
theorem Tab.up {G G' : Gd} (h : Tab G) (hle : G.le G') : Tab G' := fun W hW => h W (hle.ok hW)
theorem below_grow (w : World) (k : Nat) (os : Array Obj) : Below w.heap.size w (grow (w.drewN k) os) :=
  ⟨rfl, rfl, rfl, by first | (simp [grow]; done) | (simp [grow]; omega), fun i hi => by
    show (w.heap ++ os)[i]? = w.heap[i]?
    rw [Array.getElem?_append_left hi]⟩
/-- Decimal digits, by so many steps at most. -/
def digK : Nat → Nat → List UInt8
  | 0, _ => []
  | f + 1, u => if u < 10 then [UInt8.ofNat (48 + u)] else digK f (u / 10) ++ [UInt8.ofNat (48 + u % 10)]
theorem digK_eq : ∀ (f u : Nat), u < 10 ^ (f + 1) → digK (f + 1) u = Lib.decDigits u
  | 0, u, h => by
    have h0 : u < 10 := by simpa using h
    rw [Lib.decDigits]
    simp [digK, h0]
  | f + 1, u, h => by
    rw [digK, Lib.decDigits]
    by_cases hu : u < 10
    · rw [if_pos hu, dif_pos hu]
    · rw [if_neg hu, dif_neg hu, digK_eq f (u / 10) (by rw [Nat.pow_succ] at h; omega)]
def itoaK (n : Int) : List UInt8 := if n < 0 then 45 :: digK 20 n.natAbs else digK 20 n.toNat
theorem itoaK_eq {n : Int} (h0 : -9223372036854775808 ≤ n) (h1 : n ≤ 9223372036854775807) : itoaK n = Lib.itoa n := by
  have hp : (10 : Nat) ^ (19 + 1) = 100000000000000000000 := by decide
  have ha : n.natAbs < 10 ^ (19 + 1) := by rw [hp]; omega
  have hb : n.toNat < 10 ^ (19 + 1) := by rw [hp]; omega
  unfold itoaK Lib.itoa
  rw [digK_eq 19 _ ha, digK_eq 19 _ hb]
def strconv_Itoa.f (a0 : Int) : Option ByteArray := if -9223372036854775808 ≤ a0 ∧ a0 ≤ 9223372036854775807 then some ⟨(itoaK a0).toArray⟩ else none
def strconv_Itoa.post (G : Gd) (r : ByteArray) (v : Value) (G' : Gd) (Lr : List Ch) : Prop := G = G' ∧ v = .string r ∧ Lr = []
theorem strconv_Itoa.calls {G : Gd} {r : ByteArray} {a0 : Int} (ht : Tab G) (h : strconv_Itoa.f a0 = some r) : Fn Tryd.prog 35 G [] [.int .i64 a0] (strconv_Itoa.post G r) := fun L W hO => by
  unfold strconv_Itoa.f at h
  obtain ⟨⟨h0, h1⟩, h⟩ := ite_no h
  obtain rfl := Option.some.inj h
  refine (Tryd.strconv_Itoa a0 h0 h1 W (ht W hO.ok)).mono ?_
  rintro en W' ⟨rfl, k, os, rfl⟩
  rw [itoaK_eq h0 h1]
  exact ⟨_, G, [], rfl, Gd.le.refl _, ⟨rfl, rfl, rfl⟩, hO.below (below_grow W k os)⟩
def strings_Join.f (a0 : List ByteArray) (a1 : ByteArray) : Option ByteArray := if a0.length ≤ 140737488355328 ∧ (Lib.join (a0.map (·.data.toList)) a1.data.toList).length ≤ 140737488355328 then some ⟨(Lib.join (a0.map (·.data.toList)) a1.data.toList).toArray⟩ else none
def strings_Join.post (G : Gd) (r : ByteArray) (v : Value) (G' : Gd) (Lr : List Ch) : Prop := G = G' ∧ v = .string r ∧ Lr = []
theorem strings_Join.calls {G : Gd} {r : ByteArray} {a0 : List ByteArray} {a1 : ByteArray} {A1 : Option Addr} {c2 : Nat} (hp : Pl A1) (hr : Rd G Kd.string A1 a0) (hl : a0.length ≤ c2) (h : strings_Join.f a0 a1 = some r) : Fn Tryd.prog 36 G [] [.slice A1 a0.length c2, .string a1] (strings_Join.post G r) := fun L W hO => by
  unfold strings_Join.f at h
  obtain ⟨⟨h0, h1⟩, h⟩ := ite_no h
  obtain rfl := Option.some.inj h
  cases a0 with
  | nil =>
    refine (Tryd.strings_Join_none A1 c2 a1 W).mono ?_
    rintro en W' ⟨rfl, rfl⟩
    exact ⟨_, G, [], rfl, Gd.le.refl _, ⟨rfl, rfl, rfl⟩, hO⟩
  | cons x xs =>
    obtain ⟨ad, c, hA, _⟩ := Rd.cells hr W hO.ok 0 x rfl
    obtain ⟨bk, o, sp⟩ := ad
    obtain rfl : sp = none := hp _ hA
    subst hA
    have hcells : ∀ (j : Nat) y, (x :: xs)[j]? = some y → W.cell? ⟨bk, o + j, none⟩ = some (.string y) := fun j y hy => by
      obtain ⟨ad, c, hA, hlen, hK, hc⟩ := Rd.cells hr W hO.ok j y hy
      obtain rfl := Option.some.inj hA
      obtain rfl : c = [.string y] := hK
      have := hc 0 _ rfl
      rw [add_blk] at this
      have hz : j * Kd.string.sz + 0 = j := by show j * 1 + 0 = j; omega
      rw [hz] at this
      exact this
    have hbk : bk < W.heap.size := World.block_lt_of_cell? _ _ (hcells 0 x rfl)
    refine (Tryd.strings_Join bk o c2 (x :: xs) a1 W hcells hbk h0 hl h1).mono ?_
    rintro en W' ⟨rfl, hb⟩
    exact ⟨_, G, [], rfl, Gd.le.refl _, ⟨rfl, rfl, rfl⟩, hO.below hb⟩
end Go.Proofs.YtdklnjmdaecboaaDoor.Sy
set_option linter.unusedVariables false
set_option linter.unusedSimpArgs false
set_option maxRecDepth 100000
set_option maxHeartbeats 4000000
namespace Go.Proofs.YtdklnjmdaecboaaDoor.Sy
open Go Go.RowKit Go.Proofs.YtdklnjmdaecboaaDoorW.PrintWords 
/-! #### struct type 24, nested in itself -/
structure S24 where
 f0 : Int
 f1 : Int
 f2 : (List S24)
def z24 : S24 := ⟨(0 : Int), (0 : Int), ([] : List S24)⟩
def F24 (d : Kd S24) : Kd S24 := Kd.iso (Kd.pair (Kd.int .i64) (Kd.pair (Kd.int .i64) (Kd.slice 24 d))) (fun x : S24 => (x.f0, x.f1, x.f2))
theorem mono24 : Kd.Mono F24 := Kd.mono_iso _ (Kd.mono_pair (Kd.mono_const _) (Kd.mono_pair (Kd.mono_const _) (Kd.mono_slice 24 Kd.mono_id)))
theorem sub24 : Kd.Sub F24 [24] := Kd.sub_iso _ (Kd.sub_pair (Kd.sub_const _ (by decide)) (Kd.sub_pair (Kd.sub_const _ (by decide)) (Kd.sub_slice 24 (by decide) Kd.sub_id)))
theorem sz24 : ∀ n, (Kd.upto F24 3 [24] n).sz = 3 := Kd.upto_sz (fun _ => rfl)
def k24 : Kd S24 := Kd.fix F24 3 [24] sz24 (Kd.upto_E sub24)
theorem k24_open {w : World} {x : S24} {cs : List Value} (h : k24.K w x cs) : ∃ A2 c2, cs = [.int .i64 x.f0, .int .i64 x.f1, .slice A2 x.f2.length c2] ∧ x.f2.length ≤ c2 ∧ k24.C w A2 x.f2.length x.f2 := by
 obtain ⟨n, h⟩ := h
 cases n with
 | zero => exact h.elim
 | succ n =>
  obtain ⟨_, _, rfl, rfl, ⟨_, _, rfl, rfl, ⟨A2, c2, rfl, l2, g2⟩⟩⟩ := h
  exact ⟨A2, c2, rfl, l2, Kd.fix_C g2⟩
theorem k24_openM {w : World} {base : Nat} {ok : Nat → Prop} {x : S24} {cs : List Value} (h : k24.M w base ok x cs) : ∃ v2, cs = [.int .i64 x.f0, .int .i64 x.f1, v2] ∧ k24.R 24 w base ok v2 x.f2 := by
 obtain ⟨n, h⟩ := h
 cases n with
 | zero => exact h.elim
 | succ n =>
  obtain ⟨_, _, rfl, rfl, ⟨_, _, rfl, rfl, ⟨v2, rfl, g2⟩⟩⟩ := h
  exact ⟨v2, rfl, Kd.fix_R g2⟩
theorem k24_mk (w : World) (x : S24) {A2 : Option Addr} {c2 : Nat} (l2 : x.f2.length ≤ c2) (g2 : k24.C w A2 x.f2.length x.f2) : k24.K w x [.int .i64 x.f0, .int .i64 x.f1, .slice A2 x.f2.length c2] := by
 obtain ⟨n2, q2⟩ := Kd.fix_C_back mono24 g2
 have r2 := Kd.upto_C_le mono24 sz24 (show n2 ≤ n2 by omega) q2
 exact ⟨n2 + 1, ⟨[.int .i64 x.f0], [.int .i64 x.f1, .slice A2 x.f2.length c2], rfl, rfl, ⟨[.int .i64 x.f1], [.slice A2 x.f2.length c2], rfl, rfl, ⟨A2, c2, rfl, l2, r2⟩⟩⟩⟩
theorem k24_mkM (w : World) (base : Nat) (ok : Nat → Prop) (x : S24) {v2 : Value} (g2 : k24.R 24 w base ok v2 x.f2) : k24.M w base ok x [.int .i64 x.f0, .int .i64 x.f1, v2] := by
 obtain ⟨n2, q2⟩ := Kd.fix_R_back mono24 g2
 have r2 := Kd.upto_R_le mono24 sz24 (show n2 ≤ n2 by omega) q2
 exact ⟨n2 + 1, ⟨[.int .i64 x.f0], [.int .i64 x.f1, v2], rfl, rfl, ⟨[.int .i64 x.f1], [v2], rfl, rfl, ⟨v2, rfl, r2⟩⟩⟩⟩
def rd_T24 (xs : List S24) (i : Int) : S24 := xs.getD i.toNat z24
theorem at_T24 {w : World} {A : Option Addr} {n : Nat} {xs : List S24} (h : Kd.C k24 w A n xs) (i : Int) (h0 : 0 ≤ i) (h1 : i < n) : ∃ ad A2 c2, A = some ad ∧ w.cell? (ad.add (i.toNat * 3)) = some (.int .i64 (rd_T24 xs i).f0) ∧ w.cell? ⟨(ad.add (i.toNat * 3)).block, (ad.add (i.toNat * 3)).off + 1, none⟩ = some (.int .i64 (rd_T24 xs i).f1) ∧ w.cell? ⟨(ad.add (i.toNat * 3)).block, (ad.add (i.toNat * 3)).off + 2, none⟩ = some (.slice A2 (rd_T24 xs i).f2.length c2) ∧ (rd_T24 xs i).f2.length ≤ c2 ∧ k24.C w A2 (rd_T24 xs i).f2.length (rd_T24 xs i).f2 := by
 obtain ⟨ad, c, e, _, hK, hc0⟩ := Kd.C_get h z24 i h0 h1
 have hc : ∀ j u, c[j]? = some u → w.cell? (ad.add (i.toNat * 3 + j)) = some u := hc0
 obtain ⟨A2, c2, rfl, l2, g2⟩ := k24_open hK
 exact ⟨ad, A2, c2, e, hc 0 _ rfl, by rw [← add_field _ _ 1 (by omega)]; exact hc 1 _ rfl, by rw [← add_field _ _ 2 (by omega)]; exact hc 2 _ rfl, l2, g2⟩


/-! #### struct type 36, nested in itself -/
structure S36 where
 f0 : Int
 f1 : ByteArray
 f2 : Int
 f3 : (List S36)
def z36 : S36 := ⟨(0 : Int), (⟨#[]⟩ : ByteArray), (0 : Int), ([] : List S36)⟩
def F36 (d : Kd S36) : Kd S36 := Kd.iso (Kd.pair (Kd.int .i64) (Kd.pair Kd.string (Kd.pair (Kd.int .i64) (Kd.slice 36 d)))) (fun x : S36 => (x.f0, x.f1, x.f2, x.f3))
theorem mono36 : Kd.Mono F36 := Kd.mono_iso _ (Kd.mono_pair (Kd.mono_const _) (Kd.mono_pair (Kd.mono_const _) (Kd.mono_pair (Kd.mono_const _) (Kd.mono_slice 36 Kd.mono_id))))
theorem sub36 : Kd.Sub F36 [36] := Kd.sub_iso _ (Kd.sub_pair (Kd.sub_const _ (by decide)) (Kd.sub_pair (Kd.sub_const _ (by decide)) (Kd.sub_pair (Kd.sub_const _ (by decide)) (Kd.sub_slice 36 (by decide) Kd.sub_id))))
theorem sz36 : ∀ n, (Kd.upto F36 4 [36] n).sz = 4 := Kd.upto_sz (fun _ => rfl)
def k36 : Kd S36 := Kd.fix F36 4 [36] sz36 (Kd.upto_E sub36)
theorem k36_open {w : World} {x : S36} {cs : List Value} (h : k36.K w x cs) : ∃ A3 c3, cs = [.int .i64 x.f0, .string x.f1, .int .i64 x.f2, .slice A3 x.f3.length c3] ∧ x.f3.length ≤ c3 ∧ k36.C w A3 x.f3.length x.f3 := by
 obtain ⟨n, h⟩ := h
 cases n with
 | zero => exact h.elim
 | succ n =>
  obtain ⟨_, _, rfl, rfl, ⟨_, _, rfl, rfl, ⟨_, _, rfl, rfl, ⟨A3, c3, rfl, l3, g3⟩⟩⟩⟩ := h
  exact ⟨A3, c3, rfl, l3, Kd.fix_C g3⟩
theorem k36_openM {w : World} {base : Nat} {ok : Nat → Prop} {x : S36} {cs : List Value} (h : k36.M w base ok x cs) : ∃ v3, cs = [.int .i64 x.f0, .string x.f1, .int .i64 x.f2, v3] ∧ k36.R 36 w base ok v3 x.f3 := by
 obtain ⟨n, h⟩ := h
 cases n with
 | zero => exact h.elim
 | succ n =>
  obtain ⟨_, _, rfl, rfl, ⟨_, _, rfl, rfl, ⟨_, _, rfl, rfl, ⟨v3, rfl, g3⟩⟩⟩⟩ := h
  exact ⟨v3, rfl, Kd.fix_R g3⟩
theorem k36_mk (w : World) (x : S36) {A3 : Option Addr} {c3 : Nat} (l3 : x.f3.length ≤ c3) (g3 : k36.C w A3 x.f3.length x.f3) : k36.K w x [.int .i64 x.f0, .string x.f1, .int .i64 x.f2, .slice A3 x.f3.length c3] := by
 obtain ⟨n3, q3⟩ := Kd.fix_C_back mono36 g3
 have r3 := Kd.upto_C_le mono36 sz36 (show n3 ≤ n3 by omega) q3
 exact ⟨n3 + 1, ⟨[.int .i64 x.f0], [.string x.f1, .int .i64 x.f2, .slice A3 x.f3.length c3], rfl, rfl, ⟨[.string x.f1], [.int .i64 x.f2, .slice A3 x.f3.length c3], rfl, rfl, ⟨[.int .i64 x.f2], [.slice A3 x.f3.length c3], rfl, rfl, ⟨A3, c3, rfl, l3, r3⟩⟩⟩⟩⟩
theorem k36_mkM (w : World) (base : Nat) (ok : Nat → Prop) (x : S36) {v3 : Value} (g3 : k36.R 36 w base ok v3 x.f3) : k36.M w base ok x [.int .i64 x.f0, .string x.f1, .int .i64 x.f2, v3] := by
 obtain ⟨n3, q3⟩ := Kd.fix_R_back mono36 g3
 have r3 := Kd.upto_R_le mono36 sz36 (show n3 ≤ n3 by omega) q3
 exact ⟨n3 + 1, ⟨[.int .i64 x.f0], [.string x.f1, .int .i64 x.f2, v3], rfl, rfl, ⟨[.string x.f1], [.int .i64 x.f2, v3], rfl, rfl, ⟨[.int .i64 x.f2], [v3], rfl, rfl, ⟨v3, rfl, r3⟩⟩⟩⟩⟩
def rd_T36 (xs : List S36) (i : Int) : S36 := xs.getD i.toNat z36
theorem at_T36 {w : World} {A : Option Addr} {n : Nat} {xs : List S36} (h : Kd.C k36 w A n xs) (i : Int) (h0 : 0 ≤ i) (h1 : i < n) : ∃ ad A3 c3, A = some ad ∧ w.cell? (ad.add (i.toNat * 4)) = some (.int .i64 (rd_T36 xs i).f0) ∧ w.cell? ⟨(ad.add (i.toNat * 4)).block, (ad.add (i.toNat * 4)).off + 1, none⟩ = some (.string (rd_T36 xs i).f1) ∧ w.cell? ⟨(ad.add (i.toNat * 4)).block, (ad.add (i.toNat * 4)).off + 2, none⟩ = some (.int .i64 (rd_T36 xs i).f2) ∧ w.cell? ⟨(ad.add (i.toNat * 4)).block, (ad.add (i.toNat * 4)).off + 3, none⟩ = some (.slice A3 (rd_T36 xs i).f3.length c3) ∧ (rd_T36 xs i).f3.length ≤ c3 ∧ k36.C w A3 (rd_T36 xs i).f3.length (rd_T36 xs i).f3 := by
 obtain ⟨ad, c, e, _, hK, hc0⟩ := Kd.C_get h z36 i h0 h1
 have hc : ∀ j u, c[j]? = some u → w.cell? (ad.add (i.toNat * 4 + j)) = some u := hc0
 obtain ⟨A3, c3, rfl, l3, g3⟩ := k36_open hK
 exact ⟨ad, A3, c3, e, hc 0 _ rfl, by rw [← add_field _ _ 1 (by omega)]; exact hc 1 _ rfl, by rw [← add_field _ _ 2 (by omega)]; exact hc 2 _ rfl, by rw [← add_field _ _ 3 (by omega)]; exact hc 3 _ rfl, l3, g3⟩

theorem k24_openR {G : Gd} {x : S24} {cs : List Value} (h : RdK G k24 x cs) : ∃ A2 c2, cs = [.int .i64 x.f0, .int .i64 x.f1, .slice A2 x.f2.length c2] ∧ Rd G k24 A2 x.f2 ∧ x.f2.length ≤ c2 := by
 obtain ⟨A2, c2, rfl, l2, g2⟩ := k24_open (h G.W0 G.self)
 exact ⟨A2, c2, rfl, (fun W hW => by obtain ⟨A2', c2', he, l2', g2'⟩ := k24_open (h W hW); injection (Option.some.inj (congrArg (fun l => l[2]?) he)) with ha_ _ _; rw [ha_]; exact g2'), l2⟩
theorem k36_openR {G : Gd} {x : S36} {cs : List Value} (h : RdK G k36 x cs) : ∃ A3 c3, cs = [.int .i64 x.f0, .string x.f1, .int .i64 x.f2, .slice A3 x.f3.length c3] ∧ Rd G k36 A3 x.f3 ∧ x.f3.length ≤ c3 := by
 obtain ⟨A3, c3, rfl, l3, g3⟩ := k36_open (h G.W0 G.self)
 exact ⟨A3, c3, rfl, (fun W hW => by obtain ⟨A3', c3', he, l3', g3'⟩ := k36_open (h W hW); injection (Option.some.inj (congrArg (fun l => l[3]?) he)) with ha_ _ _; rw [ha_]; exact g3'), l3⟩
theorem agg3 : aggB Tryd.prog 3 = some false := by kernel_rfl
theorem agg9 : aggB Tryd.prog 9 = some false := by kernel_rfl
theorem agg22 : aggB Tryd.prog 22 = some false := by kernel_rfl
theorem agg24 : aggB Tryd.prog 24 = some true := by kernel_rfl
theorem agg34 : aggB Tryd.prog 34 = some false := by kernel_rfl
theorem agg36 : aggB Tryd.prog 36 = some true := by kernel_rfl
theorem bld24 : (match Tryd.prog.underlying 24 with | some (.struct fs) => fs.toList.map (fun f => (Tryd.prog.info? f.type).map (·.size)) | _ => []) = [1, 1, 1].map some := by kernel_rfl
theorem bld36 : (match Tryd.prog.underlying 36 with | some (.struct fs) => fs.toList.map (fun f => (Tryd.prog.info? f.type).map (·.size)) | _ => []) = [1, 1, 1, 1].map some := by kernel_rfl
theorem hbd7 : hasBody Tryd.prog 7 = true := by kernel_rfl
theorem hbd8 : hasBody Tryd.prog 8 = true := by kernel_rfl
theorem hbd9 : hasBody Tryd.prog 9 = true := by kernel_rfl
theorem hbd10 : hasBody Tryd.prog 10 = true := by kernel_rfl
theorem hbd11 : hasBody Tryd.prog 11 = true := by kernel_rfl
theorem hbd12 : hasBody Tryd.prog 12 = true := by kernel_rfl
theorem hbd13 : hasBody Tryd.prog 13 = true := by kernel_rfl
theorem hbd14 : hasBody Tryd.prog 14 = true := by kernel_rfl
theorem hbd15 : hasBody Tryd.prog 15 = true := by kernel_rfl
theorem hbd16 : hasBody Tryd.prog 16 = true := by kernel_rfl
theorem hbd17 : hasBody Tryd.prog 17 = true := by kernel_rfl
theorem hbd18 : hasBody Tryd.prog 18 = true := by kernel_rfl
theorem hbd19 : hasBody Tryd.prog 19 = true := by kernel_rfl
theorem hbd20 : hasBody Tryd.prog 20 = true := by kernel_rfl
theorem hbd21 : hasBody Tryd.prog 21 = true := by kernel_rfl
theorem hbd22 : hasBody Tryd.prog 22 = true := by kernel_rfl
theorem hbd23 : hasBody Tryd.prog 23 = true := by kernel_rfl
theorem hbd24 : hasBody Tryd.prog 24 = true := by kernel_rfl
theorem hbd25 : hasBody Tryd.prog 25 = true := by kernel_rfl
theorem hbd26 : hasBody Tryd.prog 26 = true := by kernel_rfl
theorem hbd27 : hasBody Tryd.prog 27 = true := by kernel_rfl
theorem hbd28 : hasBody Tryd.prog 28 = true := by kernel_rfl
theorem hbd29 : hasBody Tryd.prog 29 = true := by kernel_rfl
theorem hbd30 : hasBody Tryd.prog 30 = true := by kernel_rfl
theorem hbd31 : hasBody Tryd.prog 31 = true := by kernel_rfl
theorem hbd32 : hasBody Tryd.prog 32 = true := by kernel_rfl
theorem hbd33 : hasBody Tryd.prog 33 = true := by kernel_rfl
theorem hbd34 : hasBody Tryd.prog 34 = true := by kernel_rfl
theorem hbd35 : hasBody Tryd.prog 35 = true := by kernel_rfl
theorem hbd36 : hasBody Tryd.prog 36 = true := by kernel_rfl
theorem hbd37 : hasBody Tryd.prog 37 = true := by kernel_rfl
theorem hbd38 : hasBody Tryd.prog 38 = true := by kernel_rfl
theorem hbd39 : hasBody Tryd.prog 39 = true := by kernel_rfl
theorem hbd40 : hasBody Tryd.prog 40 = true := by kernel_rfl
theorem hbd41 : hasBody Tryd.prog 41 = true := by kernel_rfl
theorem hbd46 : hasBody Tryd.prog 46 = true := by kernel_rfl
theorem hbd47 : hasBody Tryd.prog 47 = true := by kernel_rfl
theorem hbd48 : hasBody Tryd.prog 48 = true := by kernel_rfl
theorem hbd49 : hasBody Tryd.prog 49 = true := by kernel_rfl
theorem hbd50 : hasBody Tryd.prog 50 = true := by kernel_rfl
theorem hbd54 : hasBody Tryd.prog 54 = true := by kernel_rfl
theorem hbd55 : hasBody Tryd.prog 55 = true := by kernel_rfl
theorem hbd56 : hasBody Tryd.prog 56 = true := by kernel_rfl
theorem inf9 : (Tryd.prog.info? 9).map (fun i => (i.zero, i.size, i.bytes)) = some (some (.string ⟨#[]⟩), 1, 16) := by kernel_rfl
theorem inf24 : (Tryd.prog.info? 24).map (fun i => (i.zero, i.size, i.bytes)) = some (some (.agg #[.int .i64 0, .int .i64 0, .slice none 0 0]), 3, 40) := by kernel_rfl
theorem mixed : Tryd.prog.follows .mixedOrders = true := by kernel_rfl
theorem fsz3 : (Tryd.prog.info? 3).map (·.size) = some 1 := by kernel_rfl
theorem fsz9 : (Tryd.prog.info? 9).map (·.size) = some 1 := by kernel_rfl
theorem fsz22 : (Tryd.prog.info? 22).map (·.size) = some 1 := by kernel_rfl
theorem fsz24 : (Tryd.prog.info? 24).map (·.size) = some 3 := by kernel_rfl
theorem fsz34 : (Tryd.prog.info? 34).map (·.size) = some 1 := by kernel_rfl
theorem fsz36 : (Tryd.prog.info? 36).map (·.size) = some 4 := by kernel_rfl
theorem zr3 : (Tryd.prog.info? 3).bind (·.zero) = some (.int .i64 0) := by kernel_rfl
theorem zr24 : (Tryd.prog.info? 24).bind (·.zero) = some (.agg #[.int .i64 0, .int .i64 0, .slice none 0 0]) := by kernel_rfl
theorem zr36 : (Tryd.prog.info? 36).bind (·.zero) = some (.agg #[.int .i64 0, .string ⟨#[]⟩, .int .i64 0, .slice none 0 0]) := by kernel_rfl
theorem zs5 : (Tryd.prog.info? 5).map (fun i => (i.zero, i.size)) = some (some (.int .u8 0), 1) := by kernel_rfl
theorem zs9 : (Tryd.prog.info? 9).map (fun i => (i.zero, i.size)) = some (some (.string ⟨#[]⟩), 1) := by kernel_rfl
theorem zs24 : (Tryd.prog.info? 24).map (fun i => (i.zero, i.size)) = some (some (.agg #[.int .i64 0, .int .i64 0, .slice none 0 0]), 3) := by kernel_rfl
theorem zs36 : (Tryd.prog.info? 36).map (fun i => (i.zero, i.size)) = some (some (.agg #[.int .i64 0, .string ⟨#[]⟩, .int .i64 0, .slice none 0 0]), 4) := by kernel_rfl
end Go.Proofs.YtdklnjmdaecboaaDoor.Sy
set_option linter.unusedVariables false
set_option maxRecDepth 100000
namespace Go.Proofs.YtdklnjmdaecboaaDoor.Sy
open Go Go.RowKit Go.Proofs.YtdklnjmdaecboaaDoorW.PrintWords Go.Proofs.YtdklnjmdaecboaaDoor.SyO
theorem bytes22 : Tryd.prog.bytesOf 24 = 40 := by kernel_rfl
theorem bytes34 : Tryd.prog.bytesOf 36 = 56 := by kernel_rfl
def WF24 (W : S24 → Prop) (x : S24) : Prop := (Lit.int .i64 x.f0).wf = true ∧ (Lit.int .i64 x.f1).wf = true ∧ (x.f2.length * 40 ≤ 140737488351232 ∧ ∀ y ∈ x.f2, W y)
def ok24 (x : S24) : Prop := ∃ n, upW WF24 n x
theorem cells24 : Tryd.prog.cellsOf 24 = 3 := by kernel_rfl
theorem opens24 (b : Nat) : Opens b Tryd.prog 24 k24 ok24 := Opens.fix (WF := WF24) cells24 (fun b d W hsz h => Opens.struct Tryd.underlying24 cells24 (OpensF.cons (Opens.int Tryd.underlying3 (by kernel_rfl)) rfl (OpensF.cons (Opens.int Tryd.underlying3 (by kernel_rfl)) rfl (OpensF.one (((Opens.slice Tryd.underlying22 (by kernel_rfl) h).le (Nat.le_succ _)).mono (W' := fun l => (l.length * 40 ≤ 140737488351232 ∧ ∀ y ∈ l, W y)) (fun l h => ⟨by have h2 := h.2.1; rw [bytes22] at h2; exact h2, h.2.2⟩))))) (fun x : S24 => (x.f0, x.f1, x.f2)) (fun y => ⟨y.1, y.2.1, y.2.2⟩) (fun _ => rfl)) b
theorem ho24 : HO k24 := HO.fix (fun d h => HO.iso (HO.pair HO.int (HO.pair HO.int (HO.slice h))))
def WF36 (W : S36 → Prop) (x : S36) : Prop := (Lit.int .i64 x.f0).wf = true ∧ x.f1.size ≤ maxLen ∧ (Lit.int .i64 x.f2).wf = true ∧ (x.f3.length * 56 ≤ 140737488351232 ∧ ∀ y ∈ x.f3, W y)
def ok36 (x : S36) : Prop := ∃ n, upW WF36 n x
theorem cells36 : Tryd.prog.cellsOf 36 = 4 := by kernel_rfl
theorem opens36 (b : Nat) : Opens b Tryd.prog 36 k36 ok36 := Opens.fix (WF := WF36) cells36 (fun b d W hsz h => Opens.struct Tryd.underlying36 cells36 (OpensF.cons (Opens.int Tryd.underlying3 (by kernel_rfl)) rfl (OpensF.cons (Opens.string Tryd.underlying9 (by kernel_rfl)) rfl (OpensF.cons (Opens.int Tryd.underlying3 (by kernel_rfl)) rfl (OpensF.one (((Opens.slice Tryd.underlying34 (by kernel_rfl) h).le (Nat.le_succ _)).mono (W' := fun l => (l.length * 56 ≤ 140737488351232 ∧ ∀ y ∈ l, W y)) (fun l h => ⟨by have h2 := h.2.1; rw [bytes34] at h2; exact h2, h.2.2⟩)))))) (fun x : S36 => (x.f0, x.f1, x.f2, x.f3)) (fun y => ⟨y.1, y.2.1, y.2.2.1, y.2.2.2⟩) (fun _ => rfl)) b
theorem ho36 : HO k36 := HO.fix (fun d h => HO.iso (HO.pair HO.int (HO.pair HO.string (HO.pair HO.int (HO.slice h)))))
end Go.Proofs.YtdklnjmdaecboaaDoor.Sy
set_option linter.unusedVariables false
set_option linter.unusedSimpArgs false
set_option maxRecDepth 100000
set_option maxHeartbeats 4000000
namespace Go.Proofs.YtdklnjmdaecboaaDoor.Sy
open Go Go.RowKit Go.Proofs.YtdklnjmdaecboaaDoorW.PrintWords 
def swagelaw11_count.post (G : Gd) (r : Int) (v : Value) (G' : Gd) (Lr : List Ch) : Prop := G = G' ∧ v = .int .i64 r ∧ Lr = []
def swagelaw11_count.l0 (rec28 : (S24 → Int → Int → Option Int)) (a0 : S24) (a1 : Int) (a2 : Int) : Nat → Int → Int → Option (Sum Int (Int))
 | 0, _, _ => none
 | n144 + 1, x96, x97 => jn (γ := (Sum Int (Int))) (fun (x192 : Bool) => (if x192 = true then (if a2 < 1 then some (.inl (IntKind.i64.wrap (a1 + 1))) else (at? a0.f2 x97).bind fun y215 => (rec28 y215 a1 (IntKind.i64.wrap (a2 - 1))).bind fun (y228 : Int) => swagelaw11_count.l0 rec28 a0 a1 a2 n144 (IntKind.i64.wrap (x96 + y228)) (IntKind.i64.wrap (x97 + 1))) else some (.inr x96))) (fun (j193 : (Bool → Option (Sum Int (Int)))) => (if x97 < (a0.f2.length : Int) then j193 (decide (x96 ≤ a1)) else j193 false))
def swagelaw11_count.g (rec28 : (S24 → Int → Int → Option Int)) (a0 : S24) (a1 : Int) (a2 : Int) : Option Int := (swagelaw11_count.l0 rec28 a0 a1 a2 (a0.f2.length + 1) 1 0).bind fun | .inl q_ => some q_ | .inr x142 => (some x142)
theorem swagelaw11_count.step (rec28 : (S24 → Int → Int → Option Int)) (ih28 : ∀ {G : Gd} {r : Int} {a0 : S24} {a1 : Int} {a2 : Int} {A1 : Option Addr} {c2 : Nat} (hr3 : Rd G k24 A1 a0.f2) (hl4 : a0.f2.length ≤ c2), rec28 a0 a1 a2 = some r → Fn Tryd.prog 28 G [] [.agg #[.int .i64 a0.f0, .int .i64 a0.f1, .slice A1 a0.f2.length c2], .int .i64 a1, .int .i64 a2] (swagelaw11_count.post G r)) {G : Gd} {r : Int} {a0 : S24} {a1 : Int} {a2 : Int} {A1 : Option Addr} {c2 : Nat} (hr3 : Rd G k24 A1 a0.f2) (hl4 : a0.f2.length ≤ c2) (h : swagelaw11_count.g rec28 a0 a1 a2 = some r) : Fn Tryd.prog 28 G [] [.agg #[.int .i64 a0.f0, .int .i64 a0.f1, .slice A1 a0.f2.length c2], .int .i64 a1, .int .i64 a2] (swagelaw11_count.post G r) := by
 refine Fn.intro (e := [(0, .agg #[.int .i64 a0.f0, .int .i64 a0.f1, .slice A1 a0.f2.length c2]), (1, .int .i64 a1), (2, .int .i64 a2)]) 37 Tryd.func28 rfl Tryd.ntmps28 rfl rfl (Nat.le_of_ble_eq_true rfl) (fun L => ?_)
 unfold swagelaw11_count.g at h
 refine TC.seq ?_
 refine TC.region ?_
 refine TL.cons (TL.box (cs := [.int .i64 a0.f0, .int .i64 a0.f1, .slice A1 a0.f2.length c2]) rfl rfl rfl rfl (fun b5 => ?_))
 refine TL.cons (TO.val rfl rfl rfl (Val.assign rfl) ?_)
 refine TL.nil ?_
 refine TQ.then_ ?_
 refine TC.seq ?_
 refine TC.region ?_
 refine TL.cons (TO.val rfl rfl rfl (Val.assign rfl) ?_)
 refine TL.nil ?_
 refine TQ.then_ ?_
 refine TC.seq ?_
 refine TC.seq ?_
 refine TC.region ?_
 refine TL.cons (TO.val rfl rfl rfl (Val.assign rfl) ?_)
 refine TL.nil ?_
 refine TQ.then_ ?_
 obtain ⟨o143, ho143, ko143⟩ := bind_no h
 clear h
 refine TC.tail (fun a W => ∃ (x142 : Int), (.inr x142) = o143 ∧ Fr 37 a [(7, .int .i64 x142)] ∧ Own G (L) W) ?_ ?_
 ·
  rintro a W ⟨x142, rfl, hF, hO⟩
  have h := ko143
  clear ko143 ho143
  refine TQ.use ?_ hF hO
  clear hF hO
  refine TQ.then_ ?_
  refine TC.seq ?_
  refine TC.region ?_
  refine TL.cons (TO.val rfl rfl rfl (Val.move rfl) ?_)
  refine TL.cons (TO.val rfl rfl rfl (Val.assign rfl) ?_)
  refine TL.nil ?_
  refine TQ.then_ ?_
  refine TC.ret ?_
  obtain rfl := Option.some.inj h
  exact TQ.fin (.inl rfl) rfl Tryd.results28 (.tmp rfl .nil) rfl (FRel.mk (Ls := []) [] 0 (Gd.le.refl _) rfl rfl rfl ⟨rfl, rfl, rfl⟩)
 ·
  refine TC.block ?_
  intro a W hF hO
  have hS : ∃ (x96 : Int) (x97 : Int), swagelaw11_count.l0 rec28 a0 a1 a2 (a0.f2.length + 1) x96 x97 = some o143 ∧ Fr 37 a [(1, .int .i64 a1), (2, .int .i64 a2), (3, .pointer (some ⟨b5, 0, none⟩)), (7, .int .i64 x96), (8, .int .i64 x97)] ∧ Own G (Blk b5 [.int .i64 a0.f0, .int .i64 a0.f1, .slice A1 a0.f2.length c2] 24 :: L) W := by
   exact ⟨1, 0, ho143, hF.sub ⟨rfl, rfl, rfl, rfl, rfl, trivial⟩, hO.selT (Ls := [Blk b5 [.int .i64 a0.f0, .int .i64 a0.f1, .slice A1 a0.f2.length c2] 24]) [0] 1 rfl rfl rfl⟩
  clear hF hO ho143
  refine TC.loop (fun n144 a W => ∃ (x96 : Int) (x97 : Int), swagelaw11_count.l0 rec28 a0 a1 a2 n144 x96 x97 = some o143 ∧ Fr 37 a [(1, .int .i64 a1), (2, .int .i64 a2), (3, .pointer (some ⟨b5, 0, none⟩)), (7, .int .i64 x96), (8, .int .i64 x97)] ∧ Own G (Blk b5 [.int .i64 a0.f0, .int .i64 a0.f1, .slice A1 a0.f2.length c2] 24 :: L) W) ?_ ?_ hS
  ·
   rintro a W ⟨x96, x97, h, hF, hO⟩
   exact none_no h
  ·
   clear hS
   rintro n144 a W ⟨x96, x97, h, hF, hO⟩
   rw [swagelaw11_count.l0] at h
   refine TC.use ?_ hF hO
   clear hF hO
   refine TC.seq ?_
   refine TC.seq ?_
   obtain ⟨j193, hj193, h⟩ := jn_no h
   refine TC.tail (fun a W => ∃ (x192 : Bool), j193 x192 = some o143 ∧ Fr 37 a [(1, .int .i64 a1), (2, .int .i64 a2), (3, .pointer (some ⟨b5, 0, none⟩)), (7, .int .i64 x96), (8, .int .i64 x97), (18, .bool x192)] ∧ Own G (Blk b5 [.int .i64 a0.f0, .int .i64 a0.f1, .slice A1 a0.f2.length c2] 24 :: L) W) ?_ ?_
   ·
    rintro a W ⟨x192, h, hF, hO⟩
    rw [hj193] at h
    refine TQ.use ?_ hF hO
    clear hF hO
    refine TQ.then_ ?_
    refine TC.cond_b rfl h (fun hc195 h => ?_) (fun hc195 h => ?_)
    ·
     refine TC.skip ?_
     refine TQ.then_ ?_
     refine TC.seq ?_
     refine TC.block ?_
     refine TC.seq ?_
     refine TC.seq ?_
     refine TC.region ?_
     refine TL.cons (TO.val rfl rfl rfl (Val.move rfl) ?_)
     refine TL.cons (TO.val rfl rfl rfl (Val.cmp rfl rfl run_lss) ?_)
     refine TL.nil ?_
     refine TQ.then_ ?_
     refine TC.cond_p rfl h (fun hc214 h => ?_) (fun hc214 h => ?_)
     ·
      refine TC.seq ?_
      refine TC.region ?_
      refine TL.cons (TO.val rfl rfl rfl (Val.move rfl) ?_)
      refine TL.cons (TO.val rfl rfl rfl (Val.cmp rfl rfl run_add) ?_)
      refine TL.cons (TO.val rfl rfl rfl (Val.assign rfl) ?_)
      refine TL.nil ?_
      refine TQ.then_ ?_
      refine TC.ret ?_
      refine TQ.thenR ?_
      refine TQ.inBR ?_
      refine TQ.thenR ?_
      refine TQ.thenR ?_
      refine TQ.inBR ?_
      refine TQ.thenR ?_
      refine TQ.thenR ?_
      obtain rfl := Option.some.inj h
      have h := ko143
      obtain rfl := Option.some.inj h
      exact TQ.fin (.inl rfl) rfl Tryd.results28 (.tmp rfl .nil) rfl (FRel.mk (Ls := []) [] 1 (Gd.le.refl _) rfl rfl rfl ⟨rfl, rfl, rfl⟩)
     ·
      refine TC.skip ?_
      refine TQ.then_ ?_
      refine TC.region ?_
      refine TL.cons (TO.val rfl rfl rfl (Val.move rfl) ?_)
      refine TL.cons (TO.val rfl rfl rfl (Val.fieldAddrB Tryd.underlying24 rfl fsz22 rfl rfl rfl) ?_)
      refine TL.cons (TO.val rfl rfl rfl (Val.loadB 0 agg22 rfl rfl rfl) ?_)
      refine TL.cons (TO.val rfl rfl rfl (Val.move rfl) ?_)
      obtain ⟨y215, hx216, h⟩ := bind_no h
      obtain ⟨ad217, cs223, hA218, hi219, hj220, hcl221, hK222⟩ := Rd.at hr3 hx216
      obtain ⟨A224, c225, rfl, hr226, hl227⟩ := k24_openR hK222
      refine TL.cons (TO.val rfl rfl rfl (Val.indexAddr Tryd.underlying22 fsz24 rfl hA218 rfl hi219 hj220) ?_)
      refine TL.cons (TO.val rfl rfl rfl (Val.loadsS (cs := [.int .i64 y215.f0, .int .i64 y215.f1, .slice A224 y215.f2.length c225]) agg24 fsz24 rfl rfl (Cl.sub (off := 0) (n := 3) hcl221 rfl)) ?_)
      refine TL.cons (TO.val rfl rfl rfl (Val.move rfl) ?_)
      refine TL.cons (TO.val rfl rfl rfl (Val.move rfl) ?_)
      refine TL.cons (TO.val rfl rfl rfl (Val.cmp rfl rfl run_sub) ?_)
      obtain ⟨y228, hy229, h⟩ := bind_no h
      refine TL.cons (TL.callV (Lin := []) (args := [.agg #[.int .i64 y215.f0, .int .i64 y215.f1, .slice A224 y215.f2.length c225], .int .i64 a1, .int .i64 (IntKind.i64.wrap (a2 - 1))]) rfl rfl rfl hbd28 rfl rfl (ih28 (a0 := y215) (a1 := a1) (a2 := IntKind.i64.wrap (a2 - 1)) hr226 hl227 hy229) rfl ?_)
      rintro _ _ _ _ ⟨rfl, rfl, rfl⟩
      refine TL.cons (TO.val rfl rfl rfl (Val.cmp rfl rfl run_add) ?_)
      refine TL.cons (TO.val rfl rfl rfl (Val.assign rfl) ?_)
      refine TL.nil ?_
      refine TQ.inB ?_
      refine TQ.then_ ?_
      refine TC.region ?_
      refine TL.cons (TO.val rfl rfl rfl (Val.move rfl) ?_)
      refine TL.cons (TO.val rfl rfl rfl (Val.cmp rfl rfl run_add) ?_)
      refine TL.cons (TO.val rfl rfl rfl (Val.assign rfl) ?_)
      refine TL.nil ?_
      exact fun a W hF hO => ⟨IntKind.i64.wrap (x96 + y228), IntKind.i64.wrap (x97 + 1), h, hF.sub ⟨rfl, rfl, rfl, rfl, rfl, trivial⟩, hO.selT (Ls := [Blk b5 [.int .i64 a0.f0, .int .i64 a0.f1, .slice A1 a0.f2.length c2] 24]) [0] 1 rfl rfl rfl⟩
    ·
     refine TC.exit ?_
     refine TQ.thenX ?_
     refine TQ.thenX ?_
     refine TQ.inBX ?_
     exact fun a W hF hO => ⟨x96, Option.some.inj h, hF.sub ⟨rfl, trivial⟩, hO.selT (Ls := []) [] 1 rfl rfl rfl⟩
   ·
    refine TC.region ?_
    refine TL.cons (TO.val rfl rfl rfl (Val.move rfl) ?_)
    refine TL.cons (TO.val rfl rfl rfl (Val.fieldAddrB Tryd.underlying24 rfl fsz22 rfl rfl rfl) ?_)
    refine TL.cons (TO.val rfl rfl rfl (Val.loadB 0 agg22 rfl rfl rfl) ?_)
    refine TL.cons (TO.val rfl rfl rfl (Val.len Tryd.underlying22 rfl) ?_)
    refine TL.cons (TO.val rfl rfl rfl (Val.cmp rfl rfl run_lss) ?_)
    refine TL.cons (TO.val rfl rfl rfl (Val.move rfl) ?_)
    refine TK.split (p := x97 < (a0.f2.length : Int)) h (fun hg230 h => ?_) (fun hg230 h => ?_)
    ·
     have hk231 : decide (x97 < (a0.f2.length : Int)) = true := decide_eq_true hg230
     refine TL.cons (TO.val (Wt.yes rfl rfl rfl hk231) rfl rfl (Val.move rfl) ?_)
     refine TL.cons (TO.val (Wt.yes rfl rfl rfl hk231) rfl rfl (Val.move rfl) ?_)
     refine TL.cons (TO.val (Wt.yes rfl rfl rfl hk231) rfl rfl (Val.cmp rfl rfl run_leq) ?_)
     refine TL.cons (TO.val rfl rfl rfl (Val.pickY rfl hk231 rfl) ?_)
     refine TL.nil ?_
     exact fun a W hF hO => ⟨decide (x96 ≤ a1), h, hF.sub ⟨rfl, rfl, rfl, rfl, rfl, rfl, trivial⟩, hO.selT (Ls := [Blk b5 [.int .i64 a0.f0, .int .i64 a0.f1, .slice A1 a0.f2.length c2] 24]) [0] 1 rfl rfl rfl⟩
    ·
     have hk232 : decide (x97 < (a0.f2.length : Int)) = false := decide_eq_false hg230
     refine TL.cons (TL.not (Wt.no rfl rfl rfl hk232) rfl ?_)
     refine TL.cons (TL.not (Wt.no rfl rfl rfl hk232) rfl ?_)
     refine TL.cons (TL.not (Wt.no rfl rfl rfl hk232) rfl ?_)
     refine TL.cons (TO.val rfl rfl rfl (Val.pickN rfl hk232 rfl) ?_)
     refine TL.nil ?_
     exact fun a W hF hO => ⟨false, h, hF.sub ⟨rfl, rfl, rfl, rfl, rfl, rfl, trivial⟩, hO.selT (Ls := [Blk b5 [.int .i64 a0.f0, .int .i64 a0.f1, .slice A1 a0.f2.length c2] 24]) [0] 1 rfl rfl rfl⟩
def swagelaw11_count.fix : Nat → (S24 → Int → Int → Option Int)
 | 0 => (fun _ _ _ => none)
 | n + 1 => swagelaw11_count.g (swagelaw11_count.fix n)
theorem swagelaw11_count.fixc : ∀ k, (∀ {G : Gd} {r : Int} {a0 : S24} {a1 : Int} {a2 : Int} {A1 : Option Addr} {c2 : Nat} (hr3 : Rd G k24 A1 a0.f2) (hl4 : a0.f2.length ≤ c2), (swagelaw11_count.fix k) a0 a1 a2 = some r → Fn Tryd.prog 28 G [] [.agg #[.int .i64 a0.f0, .int .i64 a0.f1, .slice A1 a0.f2.length c2], .int .i64 a1, .int .i64 a2] (swagelaw11_count.post G r)) ∧ True
 | 0 => ⟨(by intros; contradiction), trivial⟩
 | k + 1 => by
  have ih := swagelaw11_count.fixc k
  exact ⟨(by
   intro G r a0 a1 a2 A1 c2 hr3 hl4 h
   exact swagelaw11_count.step _ ih.1 hr3 hl4 h), trivial⟩
def swagelaw11_count.f (a0 : S24) (a1 : Int) (a2 : Int) : Option Int := (swagelaw11_count.fix 1000) a0 a1 a2
theorem swagelaw11_count.calls {G : Gd} {r : Int} {a0 : S24} {a1 : Int} {a2 : Int} {A1 : Option Addr} {c2 : Nat} (hr3 : Rd G k24 A1 a0.f2) (hl4 : a0.f2.length ≤ c2) (h : swagelaw11_count.f a0 a1 a2 = some r) : Fn Tryd.prog 28 G [] [.agg #[.int .i64 a0.f0, .int .i64 a0.f1, .slice A1 a0.f2.length c2], .int .i64 a1, .int .i64 a2] (swagelaw11_count.post G r) := (swagelaw11_count.fixc 1000).1 hr3 hl4 h
end Go.Proofs.YtdklnjmdaecboaaDoor.Sy
set_option linter.unusedVariables false
set_option linter.unusedSimpArgs false
set_option maxRecDepth 100000
set_option maxHeartbeats 4000000
namespace Go.Proofs.YtdklnjmdaecboaaDoor.Sy
open Go Go.RowKit Go.Proofs.YtdklnjmdaecboaaDoorW.PrintWords 
def swagelaw11_Few.f (a0 : S24) : Option Bool := (swagelaw11_count.f a0 300 120).bind fun (y6 : Int) => some (decide (y6 ≤ 300))
def swagelaw11_Few.post (G : Gd) (r : Bool) (v : Value) (G' : Gd) (Lr : List Ch) : Prop := G = G' ∧ v = .bool r ∧ Lr = []
theorem swagelaw11_Few.calls {G : Gd} {r : Bool} {a0 : S24} {A1 : Option Addr} {c2 : Nat} (hr3 : Rd G k24 A1 a0.f2) (hl4 : a0.f2.length ≤ c2) (h : swagelaw11_Few.f a0 = some r) : Fn Tryd.prog 8 G [] [.agg #[.int .i64 a0.f0, .int .i64 a0.f1, .slice A1 a0.f2.length c2]] (swagelaw11_Few.post G r) := by
 refine Fn.intro (e := [(0, .agg #[.int .i64 a0.f0, .int .i64 a0.f1, .slice A1 a0.f2.length c2])]) 8 Tryd.func8 rfl Tryd.ntmps8 rfl rfl (Nat.le_of_ble_eq_true rfl) (fun L => ?_)
 unfold swagelaw11_Few.f at h
 refine TC.seq ?_
 refine TC.region ?_
 refine TL.cons (TL.box (cs := [.int .i64 a0.f0, .int .i64 a0.f1, .slice A1 a0.f2.length c2]) rfl rfl rfl rfl (fun b5 => ?_))
 refine TL.cons (TO.val rfl rfl rfl (Val.assign rfl) ?_)
 refine TL.nil ?_
 refine TQ.then_ ?_
 refine TC.seq ?_
 refine TC.region ?_
 refine TL.cons (TO.val rfl rfl rfl (Val.loadsB 0 (cs := [.int .i64 a0.f0, .int .i64 a0.f1, .slice A1 a0.f2.length c2]) agg24 fsz24 rfl rfl rfl rfl) ?_)
 obtain ⟨y6, hy7, h⟩ := bind_no h
 refine TL.cons (TL.callV (Lin := []) (args := [.agg #[.int .i64 a0.f0, .int .i64 a0.f1, .slice A1 a0.f2.length c2], .int .i64 300, .int .i64 120]) rfl rfl rfl hbd28 rfl rfl (swagelaw11_count.calls (a0 := a0) (a1 := 300) (a2 := 120) hr3 hl4 hy7) rfl ?_)
 rintro _ _ _ _ ⟨rfl, rfl, rfl⟩
 refine TL.cons (TO.val rfl rfl rfl (Val.assign rfl) ?_)
 refine TL.nil ?_
 refine TQ.then_ ?_
 refine TC.seq ?_
 refine TC.region ?_
 refine TL.cons (TO.val rfl rfl rfl (Val.move rfl) ?_)
 refine TL.cons (TO.val rfl rfl rfl (Val.cmp rfl rfl run_leq) ?_)
 refine TL.cons (TO.val rfl rfl rfl (Val.assign rfl) ?_)
 refine TL.nil ?_
 refine TQ.then_ ?_
 refine TC.ret ?_
 obtain rfl := Option.some.inj h
 exact TQ.fin (.inl rfl) rfl Tryd.results8 (.tmp rfl .nil) rfl (FRel.mk (Ls := []) [] 1 (Gd.le.refl _) rfl rfl rfl ⟨rfl, rfl, rfl⟩)
end Go.Proofs.YtdklnjmdaecboaaDoor.Sy
set_option linter.unusedVariables false
set_option linter.unusedSimpArgs false
set_option maxRecDepth 100000
set_option maxHeartbeats 4000000
namespace Go.Proofs.YtdklnjmdaecboaaDoor.Sy
open Go Go.RowKit Go.Proofs.YtdklnjmdaecboaaDoorW.PrintWords 
def swageref11_Copy.post (G : Gd) (r : S24) (v : Value) (G' : Gd) (Lr : List Ch) : Prop := G = G' ∧ ∃ (A_1 : Option Addr) (c_1 : Nat), v = .agg #[.int .i64 r.f0, .int .i64 r.f1, .slice A_1 r.f2.length c_1] ∧ Lr = [Row k24 24 (.slice A_1 r.f2.length c_1) r.f2]
def swageref11_Copy.l0 (rec9 : (S24 → Option S24)) (a0 : S24) : Nat → Int → (List S24) → Option ((List S24))
 | 0, _, _ => none
 | n297 + 1, x197, l198 => (if x197 < (a0.f2.length : Int) then (at? a0.f2 x197).bind fun y456 => (rec9 y456).bind fun (y469 : S24) => (if l198.length < 3518437208883 then swageref11_Copy.l0 rec9 a0 n297 (IntKind.i64.wrap (x197 + 1)) (l198 ++ [y469]) else none) else some l198)
def swageref11_Copy.g (rec9 : (S24 → Option S24)) (a0 : S24) : Option S24 := (swageref11_Copy.l0 rec9 a0 (a0.f2.length + 1) 0 []).bind fun (l292 : (List S24)) => some (⟨a0.f0, a0.f1, l292⟩ : S24)
theorem swageref11_Copy.step (rec9 : (S24 → Option S24)) (ih9 : ∀ {G : Gd} {r : S24} {a0 : S24} {A1 : Option Addr} {c2 : Nat} (hr3 : Rd G k24 A1 a0.f2) (hl4 : a0.f2.length ≤ c2), rec9 a0 = some r → Fn Tryd.prog 9 G [] [.agg #[.int .i64 a0.f0, .int .i64 a0.f1, .slice A1 a0.f2.length c2]] (swageref11_Copy.post G r)) {G : Gd} {r : S24} {a0 : S24} {A1 : Option Addr} {c2 : Nat} (hr3 : Rd G k24 A1 a0.f2) (hl4 : a0.f2.length ≤ c2) (h : swageref11_Copy.g rec9 a0 = some r) : Fn Tryd.prog 9 G [] [.agg #[.int .i64 a0.f0, .int .i64 a0.f1, .slice A1 a0.f2.length c2]] (swageref11_Copy.post G r) := by
 refine Fn.intro (e := [(0, .agg #[.int .i64 a0.f0, .int .i64 a0.f1, .slice A1 a0.f2.length c2])]) 29 Tryd.func9 rfl Tryd.ntmps9 rfl rfl (Nat.le_of_ble_eq_true rfl) (fun L => ?_)
 unfold swageref11_Copy.g at h
 refine TC.seq ?_
 refine TC.region ?_
 refine TL.cons (TL.box (cs := [.int .i64 a0.f0, .int .i64 a0.f1, .slice A1 a0.f2.length c2]) rfl rfl rfl rfl (fun b5 => ?_))
 refine TL.cons (TL.alloc (cs := [.int .i64 0, .int .i64 0, .slice none 0 0]) rfl rfl zr24 rfl (fun b6 => ?_))
 refine TL.nil ?_
 refine TQ.then_ ?_
 refine TC.seq ?_
 refine TC.region ?_
 refine TL.cons (TO.val rfl rfl rfl (Val.fieldAddrB Tryd.underlying24 rfl fsz3 rfl rfl rfl) ?_)
 refine TL.cons (TO.val rfl rfl rfl (Val.loadB 1 agg3 rfl rfl rfl) ?_)
 refine TL.cons (TO.val rfl rfl rfl (Val.fieldAddrB Tryd.underlying24 rfl fsz3 rfl rfl rfl) ?_)
 refine TL.cons (TO.val rfl rfl rfl (Val.loadB 1 agg3 rfl rfl rfl) ?_)
 refine TL.cons (TO.val rfl rfl rfl (Val.build (cs := [.int .i64 a0.f0, .int .i64 a0.f1, .slice none 0 0]) (is := [0, 1]) (xs := [.tmp 6, .tmp 8]) Tryd.underlying24 zr24 bld24 rfl rfl rfl rfl) ?_)
 refine TL.cons (TL.alloc (cs := [.int .i64 0, .int .i64 0, .slice none 0 0]) rfl rfl zr24 rfl (fun b7 => ?_))
 refine TL.cons (TL.store 0 (ds := [.int .i64 a0.f0, .int .i64 a0.f1, .slice none 0 0]) (cs' := [.int .i64 a0.f0, .int .i64 a0.f1, .slice none 0 0]) (L' := (Blk b7 [.int .i64 a0.f0, .int .i64 a0.f1, .slice none 0 0] 24 :: Blk b6 [.int .i64 0, .int .i64 0, .slice none 0 0] 24 :: Blk b5 [.int .i64 a0.f0, .int .i64 a0.f1, .slice A1 a0.f2.length c2] 24 :: L)) rfl fsz24 rfl rfl rfl rfl rfl (Nat.le_of_ble_eq_true rfl) rfl rfl ?_)
 refine TL.nil ?_
 refine TQ.then_ ?_
 refine TC.seq ?_
 refine TC.seq ?_
 refine TC.region ?_
 refine TL.cons (TO.val rfl rfl rfl (Val.assign rfl) ?_)
 refine TL.nil ?_
 refine TQ.then_ ?_
 obtain ⟨o296, ho296, ko296⟩ := bind_no h
 clear h
 refine TC.tail (fun a W => ∃ (l292 : (List S24)) (A293 : Option Addr) (c294 : Nat), l292 = o296 ∧ Fr 29 a [(2, .pointer (some ⟨b6, 0, none⟩)), (3, .pointer (some ⟨b7, 0, none⟩))] ∧ Own G (Blk b6 [.int .i64 0, .int .i64 0, .slice none 0 0] 24 :: Blk b7 [.int .i64 a0.f0, .int .i64 a0.f1, .slice A293 l292.length c294] 24 :: Row k24 24 (.slice A293 l292.length c294) l292 :: L) W) ?_ ?_
 ·
  rintro a W ⟨l292, A293, c294, rfl, hF, hO⟩
  have h := ko296
  clear ko296 ho296
  refine TQ.use ?_ hF hO
  clear hF hO
  refine TQ.then_ ?_
  refine TC.seq ?_
  refine TC.region ?_
  refine TL.cons (TO.val rfl rfl rfl (Val.loadsB 1 (cs := [.int .i64 a0.f0, .int .i64 a0.f1, .slice A293 l292.length c294]) agg24 fsz24 rfl rfl rfl rfl) ?_)
  refine TL.cons (TL.store 0 (ds := [.int .i64 a0.f0, .int .i64 a0.f1, .slice A293 l292.length c294]) (cs' := [.int .i64 a0.f0, .int .i64 a0.f1, .slice A293 l292.length c294]) (L' := (Blk b6 [.int .i64 a0.f0, .int .i64 a0.f1, .slice A293 l292.length c294] 24 :: Blk b7 [.int .i64 a0.f0, .int .i64 a0.f1, .slice A293 l292.length c294] 24 :: Row k24 24 (.slice A293 l292.length c294) l292 :: L)) rfl fsz24 rfl rfl rfl rfl rfl (Nat.le_of_ble_eq_true rfl) rfl rfl ?_)
  refine TL.nil ?_
  refine TQ.then_ ?_
  refine TC.ret ?_
  obtain rfl := Option.some.inj h
  exact TQ.fin (.inl rfl) rfl Tryd.results9 (.cells 0 rfl rfl agg24 fsz24 .nil) rfl (FRel.mk (Ls := [Row k24 24 (.slice A293 l292.length c294) l292]) [2] 3 (Gd.le.refl _) rfl rfl rfl ⟨rfl, A293, c294, rfl, rfl⟩)
 ·
  refine TC.block ?_
  intro a W hF hO
  have hS : ∃ (x197 : Int) (l198 : (List S24)) (A199 : Option Addr) (c200 : Nat), swageref11_Copy.l0 rec9 a0 (a0.f2.length + 1) x197 l198 = some o296 ∧ Fr 29 a [(1, .pointer (some ⟨b5, 0, none⟩)), (2, .pointer (some ⟨b6, 0, none⟩)), (3, .pointer (some ⟨b7, 0, none⟩)), (4, .int .i64 x197)] ∧ Own G (Blk b5 [.int .i64 a0.f0, .int .i64 a0.f1, .slice A1 a0.f2.length c2] 24 :: Blk b6 [.int .i64 0, .int .i64 0, .slice none 0 0] 24 :: Blk b7 [.int .i64 a0.f0, .int .i64 a0.f1, .slice A199 l198.length c200] 24 :: Row k24 24 (.slice A199 l198.length c200) l198 :: L) W := by
   exact ⟨0, [], none, 0, ho296, hF.sub ⟨rfl, rfl, rfl, rfl, trivial⟩, (Own.nilRow k24 24 hO).selT (Ls := [Blk b5 [.int .i64 a0.f0, .int .i64 a0.f1, .slice A1 a0.f2.length c2] 24, Blk b6 [.int .i64 0, .int .i64 0, .slice none 0 0] 24, Blk b7 [.int .i64 a0.f0, .int .i64 a0.f1, .slice none ([] : List S24).length 0] 24, Row k24 24 (.slice none ([] : List S24).length 0) ([] : List S24)]) [3, 2, 1, 0] 4 rfl rfl rfl⟩
  clear hF hO ho296 ko296
  refine TC.loop (fun n297 a W => ∃ (x197 : Int) (l198 : (List S24)) (A199 : Option Addr) (c200 : Nat), swageref11_Copy.l0 rec9 a0 n297 x197 l198 = some o296 ∧ Fr 29 a [(1, .pointer (some ⟨b5, 0, none⟩)), (2, .pointer (some ⟨b6, 0, none⟩)), (3, .pointer (some ⟨b7, 0, none⟩)), (4, .int .i64 x197)] ∧ Own G (Blk b5 [.int .i64 a0.f0, .int .i64 a0.f1, .slice A1 a0.f2.length c2] 24 :: Blk b6 [.int .i64 0, .int .i64 0, .slice none 0 0] 24 :: Blk b7 [.int .i64 a0.f0, .int .i64 a0.f1, .slice A199 l198.length c200] 24 :: Row k24 24 (.slice A199 l198.length c200) l198 :: L) W) ?_ ?_ hS
  ·
   rintro a W ⟨x197, l198, A199, c200, h, hF, hO⟩
   exact none_no h
  ·
   clear hS
   rintro n297 a W ⟨x197, l198, A199, c200, h, hF, hO⟩
   rw [swageref11_Copy.l0] at h
   refine TC.use ?_ hF hO
   clear hF hO
   refine TC.seq ?_
   refine TC.seq ?_
   refine TC.region ?_
   refine TL.cons (TO.val rfl rfl rfl (Val.move rfl) ?_)
   refine TL.cons (TO.val rfl rfl rfl (Val.fieldAddrB Tryd.underlying24 rfl fsz22 rfl rfl rfl) ?_)
   refine TL.cons (TO.val rfl rfl rfl (Val.loadB 0 agg22 rfl rfl rfl) ?_)
   refine TL.cons (TO.val rfl rfl rfl (Val.len Tryd.underlying22 rfl) ?_)
   refine TL.cons (TO.val rfl rfl rfl (Val.cmp rfl rfl run_lss) ?_)
   refine TL.nil ?_
   refine TQ.then_ ?_
   refine TC.cond_p rfl h (fun hc389 h => ?_) (fun hc389 h => ?_)
   ·
    refine TC.skip ?_
    refine TQ.then_ ?_
    refine TC.seq ?_
    refine TC.block ?_
    refine TC.regionAny [9, 10, 11] [0, 1, 2, 3, 4, 5, 6] mixed (by kernel_rfl) ?_
    refine TA.take 0 rfl (by kernel_rfl) rfl (PQ.inB (PQ.then_ (PQ.then_ (PQ.inB (PQ.then_ (PQ.then_ PQ.body)))))) rfl (Val.fieldAddrB Tryd.underlying24 rfl fsz22 rfl rfl rfl) (fun W hO => hO) ?_
    refine TA.take 1 rfl (by kernel_rfl) rfl (PQ.inB (PQ.then_ (PQ.then_ (PQ.inB (PQ.then_ (PQ.then_ PQ.body)))))) rfl (Val.loadB 2 agg22 rfl rfl rfl) (fun W hO => hO) ?_
    refine TA.take 2 rfl (by kernel_rfl) rfl (PQ.inB (PQ.then_ (PQ.then_ (PQ.inB (PQ.then_ (PQ.then_ PQ.body)))))) rfl (Val.fieldAddrB Tryd.underlying24 rfl fsz22 rfl rfl rfl) (fun W hO => hO) ?_
    refine TA.take 3 rfl (by kernel_rfl) rfl (PQ.inB (PQ.then_ (PQ.then_ (PQ.inB (PQ.then_ (PQ.then_ PQ.body)))))) rfl (Val.loadB 0 agg22 rfl rfl rfl) (fun W hO => hO) ?_
    refine TA.take 4 rfl (by kernel_rfl) rfl (PQ.inB (PQ.then_ (PQ.then_ (PQ.inB (PQ.then_ (PQ.then_ PQ.body)))))) rfl (Val.move rfl) (fun W hO => hO) ?_
    obtain ⟨y456, hx457, h⟩ := bind_no h
    obtain ⟨ad458, cs464, hA459, hi460, hj461, hcl462, hK463⟩ := Rd.at hr3 hx457
    obtain ⟨A465, c466, rfl, hr467, hl468⟩ := k24_openR hK463
    refine TA.take 5 rfl (by kernel_rfl) rfl (PQ.inB (PQ.then_ (PQ.then_ (PQ.inB (PQ.then_ (PQ.then_ PQ.body)))))) rfl (Val.indexAddr Tryd.underlying22 fsz24 rfl hA459 rfl hi460 hj461) (fun W hO => hO) ?_
    refine TA.take 6 rfl (by kernel_rfl) rfl (PQ.inB (PQ.then_ (PQ.then_ (PQ.inB (PQ.then_ (PQ.then_ PQ.body)))))) rfl (Val.loadsS (cs := [.int .i64 y456.f0, .int .i64 y456.f1, .slice A465 y456.f2.length c466]) agg24 fsz24 rfl rfl (Cl.sub (off := 0) (n := 3) hcl462 rfl)) (fun W hO => hO) ?_
    obtain ⟨y469, hy470, h⟩ := bind_no h
    refine TA.eff 7 rfl (by kernel_rfl) rfl (TL.callV (Lin := []) (args := [.agg #[.int .i64 y456.f0, .int .i64 y456.f1, .slice A465 y456.f2.length c466]]) rfl rfl rfl hbd9 rfl rfl (ih9 (a0 := y456) hr467 hl468 hy470) rfl ?_)
    rintro _ _ _ _ ⟨rfl, A471, c472, rfl, rfl⟩
    refine TA.next (fun W hO => hO.selT (Ls := [Blk b5 [.int .i64 a0.f0, .int .i64 a0.f1, .slice A1 a0.f2.length c2] 24, Blk b6 [.int .i64 0, .int .i64 0, .slice none 0 0] 24, Blk b7 [.int .i64 a0.f0, .int .i64 a0.f1, .slice A199 l198.length c200] 24, Row k24 24 (.slice A199 l198.length c200) l198]) [1, 2, 3, 4] 5 rfl rfl rfl) ?_
    refine TA.eff 8 rfl (by kernel_rfl) rfl (TL.buildSlice (xs := [.tmp 24]) (vs := [.agg #[.int .i64 y469.f0, .int .i64 y469.f1, .slice A471 y469.f2.length c472]]) (cs := [.int .i64 y469.f0, .int .i64 y469.f1, .slice A471 y469.f2.length c472]) rfl rfl Tryd.underlying22 zs24 rfl rfl rfl rfl rfl rfl rfl rfl (fun b474 => ?_))
    refine TA.next (fun W hO => hO.selT (Ls := [Blk b5 [.int .i64 a0.f0, .int .i64 a0.f1, .slice A1 a0.f2.length c2] 24, Blk b6 [.int .i64 0, .int .i64 0, .slice none 0 0] 24, Blk b7 [.int .i64 a0.f0, .int .i64 a0.f1, .slice A199 l198.length c200] 24, Row k24 24 (.slice A199 l198.length c200) l198]) [2, 3, 4, 5] 6 rfl rfl rfl) ?_
    refine TK.sel (Ls := [Row k24 24 (.slice A471 y469.f2.length c472) y469.f2, Blk b474 [.int .i64 y469.f0, .int .i64 y469.f1, .slice A471 y469.f2.length c472] 24, Blk b5 [.int .i64 a0.f0, .int .i64 a0.f1, .slice A1 a0.f2.length c2] 24, Blk b6 [.int .i64 0, .int .i64 0, .slice none 0 0] 24, Blk b7 [.int .i64 a0.f0, .int .i64 a0.f1, .slice A199 l198.length c200] 24, Row k24 24 (.slice A199 l198.length c200) l198]) [1, 0, 2, 3, 4, 5] 6 rfl rfl rfl ?_
    refine TK.conv (ch' := El k24 y469 [.int .i64 y469.f0, .int .i64 y469.f1, .slice A471 y469.f2.length c472]) (fun B W F hh => k24_mkM W B F y469 hh) ?_
    refine TK.sel (Ls := [Row k24 24 (.slice A199 l198.length c200) l198, El k24 y469 [.int .i64 y469.f0, .int .i64 y469.f1, .slice A471 y469.f2.length c472], Blk b474 [.int .i64 y469.f0, .int .i64 y469.f1, .slice A471 y469.f2.length c472] 24, Blk b5 [.int .i64 a0.f0, .int .i64 a0.f1, .slice A1 a0.f2.length c2] 24, Blk b6 [.int .i64 0, .int .i64 0, .slice none 0 0] 24, Blk b7 [.int .i64 a0.f0, .int .i64 a0.f1, .slice A199 l198.length c200] 24]) [5, 0, 1, 2, 3, 4] 6 rfl rfl rfl ?_
    obtain ⟨ha475, h⟩ := ite_no h
    refine TA.eff 9 rfl (by kernel_rfl) rfl (TL.append (xs := l198) k24 rfl rfl Tryd.underlying22 inf24 rfl (Nat.le_of_ble_eq_true rfl) (Nat.le_of_ble_eq_true rfl) rfl rfl (by omega) (fun A476 c477 => ?_))
    refine TA.last rfl ?_
    refine TA.eff 10 rfl (by kernel_rfl) rfl (TO.val rfl rfl rfl (Val.fieldAddrB Tryd.underlying24 rfl fsz22 rfl rfl rfl) ?_)
    refine TA.last rfl ?_
    refine TA.eff 11 rfl (by kernel_rfl) rfl (TL.store 3 (ds := [.slice A476 (l198 ++ [y469]).length c477]) (cs' := [.int .i64 a0.f0, .int .i64 a0.f1, .slice A476 (l198 ++ [y469]).length c477]) (L' := (Row k24 24 (.slice A476 (l198 ++ [y469]).length c477) (l198 ++ [y469]) :: Blk b5 [.int .i64 a0.f0, .int .i64 a0.f1, .slice A1 a0.f2.length c2] 24 :: Blk b6 [.int .i64 0, .int .i64 0, .slice none 0 0] 24 :: Blk b7 [.int .i64 a0.f0, .int .i64 a0.f1, .slice A476 (l198 ++ [y469]).length c477] 24 :: L)) rfl fsz22 rfl rfl rfl rfl rfl (Nat.le_of_ble_eq_true rfl) rfl rfl ?_)
    refine TA.last rfl ?_
    refine TA.done (by kernel_rfl) ?_
    refine TQ.inB ?_
    refine TQ.then_ ?_
    refine TC.region ?_
    refine TL.cons (TO.val rfl rfl rfl (Val.move rfl) ?_)
    refine TL.cons (TO.val rfl rfl rfl (Val.cmp rfl rfl run_add) ?_)
    refine TL.cons (TO.val rfl rfl rfl (Val.assign rfl) ?_)
    refine TL.nil ?_
    exact fun a W hF hO => ⟨IntKind.i64.wrap (x197 + 1), (l198 ++ [y469]), A476, c477, h, hF.sub ⟨rfl, rfl, rfl, rfl, trivial⟩, hO.selT (Ls := [Blk b5 [.int .i64 a0.f0, .int .i64 a0.f1, .slice A1 a0.f2.length c2] 24, Blk b6 [.int .i64 0, .int .i64 0, .slice none 0 0] 24, Blk b7 [.int .i64 a0.f0, .int .i64 a0.f1, .slice A476 (l198 ++ [y469]).length c477] 24, Row k24 24 (.slice A476 (l198 ++ [y469]).length c477) (l198 ++ [y469])]) [1, 2, 3, 0] 4 rfl rfl rfl⟩
   ·
    refine TC.exit ?_
    refine TQ.thenX ?_
    refine TQ.thenX ?_
    refine TQ.inBX ?_
    exact fun a W hF hO => ⟨l198, A199, c200, Option.some.inj h, hF.sub ⟨rfl, rfl, trivial⟩, hO.selT (Ls := [Blk b6 [.int .i64 0, .int .i64 0, .slice none 0 0] 24, Blk b7 [.int .i64 a0.f0, .int .i64 a0.f1, .slice A199 l198.length c200] 24, Row k24 24 (.slice A199 l198.length c200) l198]) [1, 2, 3] 4 rfl rfl rfl⟩
def swageref11_Copy.fix : Nat → (S24 → Option S24)
 | 0 => (fun _ => none)
 | n + 1 => swageref11_Copy.g (swageref11_Copy.fix n)
theorem swageref11_Copy.fixc : ∀ k, (∀ {G : Gd} {r : S24} {a0 : S24} {A1 : Option Addr} {c2 : Nat} (hr3 : Rd G k24 A1 a0.f2) (hl4 : a0.f2.length ≤ c2), (swageref11_Copy.fix k) a0 = some r → Fn Tryd.prog 9 G [] [.agg #[.int .i64 a0.f0, .int .i64 a0.f1, .slice A1 a0.f2.length c2]] (swageref11_Copy.post G r)) ∧ True
 | 0 => ⟨(by intros; contradiction), trivial⟩
 | k + 1 => by
  have ih := swageref11_Copy.fixc k
  exact ⟨(by
   intro G r a0 A1 c2 hr3 hl4 h
   exact swageref11_Copy.step _ ih.1 hr3 hl4 h), trivial⟩
def swageref11_Copy.f (a0 : S24) : Option S24 := (swageref11_Copy.fix 1000) a0
theorem swageref11_Copy.calls {G : Gd} {r : S24} {a0 : S24} {A1 : Option Addr} {c2 : Nat} (hr3 : Rd G k24 A1 a0.f2) (hl4 : a0.f2.length ≤ c2) (h : swageref11_Copy.f a0 = some r) : Fn Tryd.prog 9 G [] [.agg #[.int .i64 a0.f0, .int .i64 a0.f1, .slice A1 a0.f2.length c2]] (swageref11_Copy.post G r) := (swageref11_Copy.fixc 1000).1 hr3 hl4 h
end Go.Proofs.YtdklnjmdaecboaaDoor.Sy
set_option linter.unusedVariables false
set_option linter.unusedSimpArgs false
set_option maxRecDepth 100000
set_option maxHeartbeats 4000000
namespace Go.Proofs.YtdklnjmdaecboaaDoor.Sy
open Go Go.RowKit Go.Proofs.YtdklnjmdaecboaaDoorW.PrintWords 
def slices_Clone_api_Type_api_Type.f (a0 : (List S24)) : Option (List S24) := (if ([] : List S24).length + a0.length ≤ 3518437208883 then some (([] : List S24) ++ a0) else none)
def slices_Clone_api_Type_api_Type.post (G : Gd) (r : (List S24)) (v : Value) (G' : Gd) (Lr : List Ch) : Prop := G = G' ∧ ∃ (A_1 : Option Addr) (c_1 : Nat), v = .slice A_1 r.length c_1 ∧ Lr = [Row (Sh G k24) 24 (.slice A_1 r.length c_1) r]
theorem slices_Clone_api_Type_api_Type.calls {G : Gd} {r : (List S24)} {a0 : (List S24)} {A1 : Option Addr} {c2 : Nat} (hr3 : Rd G k24 A1 a0) (hl4 : a0.length ≤ c2) (h : slices_Clone_api_Type_api_Type.f a0 = some r) : Fn Tryd.prog 29 G [] [.slice A1 a0.length c2] (slices_Clone_api_Type_api_Type.post G r) := by
 refine Fn.intro (e := [(0, .slice A1 a0.length c2)]) 8 Tryd.func29 rfl Tryd.ntmps29 rfl rfl (Nat.le_of_ble_eq_true rfl) (fun L => ?_)
 unfold slices_Clone_api_Type_api_Type.f at h
 refine TC.seq ?_
 refine TC.region ?_
 refine TL.cons (TO.val rfl rfl rfl (Val.assign rfl) ?_)
 refine TL.nil ?_
 refine TQ.then_ ?_
 refine TC.seq ?_
 refine TC.seq ?_
 refine TC.region ?_
 refine TL.cons (TO.val rfl rfl rfl (Val.move rfl) ?_)
 refine TL.cons (TO.val rfl rfl rfl (Val.eqNil Tryd.underlying22 rfl) ?_)
 refine TL.nil ?_
 refine TQ.then_ ?_
 refine TC.cond rfl (fun hc6 => ?_) (fun hc6 => ?_)
 ·
  have hn := Rd.nilEq hr3 hc6
  have h : some ([] : List S24) = some r := by first | (simpa [hn] using h) | (simp [hn] at h; simp [h, hn])
  refine TC.seq ?_
  refine TC.region ?_
  refine TL.cons (TO.val rfl rfl rfl (Val.assign rfl) ?_)
  refine TL.nil ?_
  refine TQ.then_ ?_
  refine TC.ret ?_
  refine TQ.thenR ?_
  refine TQ.nilRow (Sh G k24) 24 ?_
  obtain rfl := Option.some.inj h
  exact TQ.fin (.inl rfl) rfl Tryd.results29 (.tmp rfl .nil) rfl (FRel.mk (Ls := [Row (Sh G k24) 24 (.slice none 0 0) ([] : List S24)]) [0] 1 (Gd.le.refl _) rfl rfl rfl ⟨rfl, none, 0, rfl, rfl⟩)
 ·
  refine TC.skip ?_
  refine TQ.then_ ?_
  refine TC.seq ?_
  refine TC.region ?_
  refine TL.cons (TL.buildSlice0 k24 rfl rfl Tryd.underlying22 zs24 (fun b8 => ?_))
  refine TL.cons (TO.val rfl rfl rfl (Val.move rfl) ?_)
  refine TK.conv (ch' := Row (Sh G k24) 24 (.slice (some ⟨b8, 0, none⟩) 0 0) ([] : List S24)) (fun B W F hh => Row.empty k24 (Sh G k24) rfl B W F hh) ?_
  obtain ⟨ha10, h⟩ := ite_no h
  refine TL.cons (TL.appendR (xs := ([] : List S24)) (ys := a0) (Sh G k24) (Sh G k24) rfl rfl Tryd.underlying22 inf24 rfl (Nat.le_of_ble_eq_true rfl) (Nat.le_of_ble_eq_true rfl) rfl rfl (by omega) (Rd.sh hr3) rfl (fun _ _ _ _ _ h => h) (fun A11 c12 => ?_))
  refine TL.cons (TO.val rfl rfl rfl (Val.assign rfl) ?_)
  refine TL.nil ?_
  refine TQ.then_ ?_
  refine TC.ret ?_
  obtain rfl := Option.some.inj h
  exact TQ.fin (.inl rfl) rfl Tryd.results29 (.tmp rfl .nil) rfl (FRel.mk (Ls := [Row (Sh G k24) 24 (.slice A11 (([] : List S24) ++ a0).length c12) (([] : List S24) ++ a0)]) [0] 1 (Gd.le.refl _) rfl rfl rfl ⟨rfl, A11, c12, rfl, rfl⟩)
end Go.Proofs.YtdklnjmdaecboaaDoor.Sy
set_option linter.unusedVariables false
set_option linter.unusedSimpArgs false
set_option maxRecDepth 100000
set_option maxHeartbeats 4000000
namespace Go.Proofs.YtdklnjmdaecboaaDoor.Sy
open Go Go.RowKit Go.Proofs.YtdklnjmdaecboaaDoorW.PrintWords 
def types_Copy.post (G : Gd) (r : S24) (v : Value) (G' : Gd) (Lr : List Ch) : Prop := G = G' ∧ ∃ (A_1 : Option Addr) (c_1 : Nat), v = .agg #[.int .i64 r.f0, .int .i64 r.f1, .slice A_1 r.f2.length c_1] ∧ Lr = [Row k24 24 (.slice A_1 r.f2.length c_1) r.f2]
def types_Copy.l0 (rec10 : (S24 → Option S24)) (y7 : (List S24)) : Nat → (List S24) → Int → Option ((List S24))
 | 0, _, _ => none
 | n438 + 1, l337, x342 => (if x342 < (y7.length : Int) then (at? l337 x342).bind fun y581 => (rec10 y581).bind fun (y607 : S24) => (at? l337 x342).bind fun y612 => types_Copy.l0 rec10 y7 n438 (l337.set x342.toNat y607) (IntKind.i64.wrap (x342 + 1)) else some l337)
def types_Copy.g (rec10 : (S24 → Option S24)) (a0 : S24) : Option S24 := (slices_Clone_api_Type_api_Type.f a0.f2).bind fun (y7 : (List S24)) => (types_Copy.l0 rec10 y7 (y7.length + 1) y7 0).bind fun (l433 : (List S24)) => some (⟨a0.f0, a0.f1, l433⟩ : S24)
theorem types_Copy.step (rec10 : (S24 → Option S24)) (ih10 : ∀ {G : Gd} {r : S24} {a0 : S24} {A1 : Option Addr} {c2 : Nat} (hr3 : Rd G k24 A1 a0.f2) (hl4 : a0.f2.length ≤ c2), rec10 a0 = some r → Fn Tryd.prog 10 G [] [.agg #[.int .i64 a0.f0, .int .i64 a0.f1, .slice A1 a0.f2.length c2]] (types_Copy.post G r)) {G : Gd} {r : S24} {a0 : S24} {A1 : Option Addr} {c2 : Nat} (hr3 : Rd G k24 A1 a0.f2) (hl4 : a0.f2.length ≤ c2) (h : types_Copy.g rec10 a0 = some r) : Fn Tryd.prog 10 G [] [.agg #[.int .i64 a0.f0, .int .i64 a0.f1, .slice A1 a0.f2.length c2]] (types_Copy.post G r) := by
 refine Fn.intro (e := [(0, .agg #[.int .i64 a0.f0, .int .i64 a0.f1, .slice A1 a0.f2.length c2])]) 25 Tryd.func10 rfl Tryd.ntmps10 rfl rfl (Nat.le_of_ble_eq_true rfl) (fun L => ?_)
 unfold types_Copy.g at h
 refine TC.seq ?_
 refine TC.region ?_
 refine TL.cons (TL.box (cs := [.int .i64 a0.f0, .int .i64 a0.f1, .slice A1 a0.f2.length c2]) rfl rfl rfl rfl (fun b5 => ?_))
 refine TL.cons (TL.alloc (cs := [.int .i64 0, .int .i64 0, .slice none 0 0]) rfl rfl zr24 rfl (fun b6 => ?_))
 refine TL.nil ?_
 refine TQ.then_ ?_
 refine TC.seq ?_
 refine TC.region ?_
 refine TL.cons (TO.val rfl rfl rfl (Val.fieldAddrB Tryd.underlying24 rfl fsz22 rfl rfl rfl) ?_)
 refine TL.cons (TO.val rfl rfl rfl (Val.loadB 1 agg22 rfl rfl rfl) ?_)
 obtain ⟨y7, hy8, h⟩ := bind_no h
 refine TL.cons (TL.callV (Lin := []) (args := [.slice A1 a0.f2.length c2]) rfl rfl rfl hbd29 rfl rfl (slices_Clone_api_Type_api_Type.calls (a0 := a0.f2) hr3 hl4 hy8) rfl ?_)
 rintro _ _ _ _ ⟨rfl, A9, c10, rfl, rfl⟩
 refine TL.cons (TO.val rfl rfl rfl (Val.fieldAddrB Tryd.underlying24 rfl fsz22 rfl rfl rfl) ?_)
 refine TL.cons (TL.store 2 (ds := [.slice A9 y7.length c10]) (cs' := [.int .i64 a0.f0, .int .i64 a0.f1, .slice A9 y7.length c10]) (L' := (Row (Sh G k24) 24 (.slice A9 y7.length c10) y7 :: Blk b6 [.int .i64 0, .int .i64 0, .slice none 0 0] 24 :: Blk b5 [.int .i64 a0.f0, .int .i64 a0.f1, .slice A9 y7.length c10] 24 :: L)) rfl fsz22 rfl rfl rfl rfl rfl (Nat.le_of_ble_eq_true rfl) rfl rfl ?_)
 refine TL.nil ?_
 refine TQ.then_ ?_
 refine TC.seq ?_
 refine TC.seq ?_
 refine TC.region ?_
 refine TL.cons (TO.val rfl rfl rfl (Val.fieldAddrB Tryd.underlying24 rfl fsz22 rfl rfl rfl) ?_)
 refine TL.cons (TO.val rfl rfl rfl (Val.loadB 2 agg22 rfl rfl rfl) ?_)
 refine TL.cons (TO.val rfl rfl rfl (Val.len Tryd.underlying22 rfl) ?_)
 refine TL.cons (TO.val rfl rfl rfl (Val.move rfl) ?_)
 refine TL.nil ?_
 refine TQ.then_ ?_
 refine TC.conv (ch' := Row (Tg G k24) 24 (.slice A9 y7.length c10) (mixl 0 y7)) (fun B W F hh => Row.mix0 B W F hh) ?_
 obtain ⟨o437, ho437, ko437⟩ := bind_no h
 clear h
 refine TC.tail (fun a W => ∃ (l433 : (List S24)) (A434 : Option Addr) (c435 : Nat), l433 = o437 ∧ Fr 25 a [(1, .pointer (some ⟨b5, 0, none⟩)), (2, .pointer (some ⟨b6, 0, none⟩))] ∧ Own G (Blk b5 [.int .i64 a0.f0, .int .i64 a0.f1, .slice A434 l433.length c435] 24 :: Blk b6 [.int .i64 0, .int .i64 0, .slice none 0 0] 24 :: Row k24 24 (.slice A434 l433.length c435) l433 :: L) W) ?_ ?_
 ·
  rintro a W ⟨l433, A434, c435, rfl, hF, hO⟩
  have h := ko437
  clear ko437 ho437
  refine TQ.use ?_ hF hO
  clear hF hO
  refine TQ.then_ ?_
  refine TC.seq ?_
  refine TC.region ?_
  refine TL.cons (TO.val rfl rfl rfl (Val.loadsB 0 (cs := [.int .i64 a0.f0, .int .i64 a0.f1, .slice A434 l433.length c435]) agg24 fsz24 rfl rfl rfl rfl) ?_)
  refine TL.cons (TL.store 1 (ds := [.int .i64 a0.f0, .int .i64 a0.f1, .slice A434 l433.length c435]) (cs' := [.int .i64 a0.f0, .int .i64 a0.f1, .slice A434 l433.length c435]) (L' := (Blk b5 [.int .i64 a0.f0, .int .i64 a0.f1, .slice A434 l433.length c435] 24 :: Blk b6 [.int .i64 a0.f0, .int .i64 a0.f1, .slice A434 l433.length c435] 24 :: Row k24 24 (.slice A434 l433.length c435) l433 :: L)) rfl fsz24 rfl rfl rfl rfl rfl (Nat.le_of_ble_eq_true rfl) rfl rfl ?_)
  refine TL.nil ?_
  refine TQ.then_ ?_
  refine TC.ret ?_
  obtain rfl := Option.some.inj h
  exact TQ.fin (.inl rfl) rfl Tryd.results10 (.cells 1 rfl rfl agg24 fsz24 .nil) rfl (FRel.mk (Ls := [Row k24 24 (.slice A434 l433.length c435) l433]) [2] 3 (Gd.le.refl _) rfl rfl rfl ⟨rfl, A434, c435, rfl, rfl⟩)
 ·
  refine TC.block ?_
  intro a W hF hO
  have hS : ∃ (l337 : (List S24)) (x342 : Int) (A338 : Option Addr) (c339 : Nat), types_Copy.l0 rec10 y7 (y7.length + 1) l337 x342 = some o437 ∧ l337.length = y7.length ∧ Fr 25 a [(1, .pointer (some ⟨b5, 0, none⟩)), (2, .pointer (some ⟨b6, 0, none⟩)), (10, .slice A338 l337.length c339), (11, .int .i64 (y7.length : Int)), (12, .int .i64 x342)] ∧ Own G (Blk b5 [.int .i64 a0.f0, .int .i64 a0.f1, .slice A338 l337.length c339] 24 :: Blk b6 [.int .i64 0, .int .i64 0, .slice none 0 0] 24 :: Row (Tg G k24) 24 (.slice A338 l337.length c339) (mixl x342 l337) :: L) W := by
   exact ⟨y7, 0, A9, c10, ho437, (by first | rfl | assumption | (simp only [List.length_set]; first | rfl | assumption)), hF.sub ⟨rfl, rfl, rfl, rfl, rfl, trivial⟩, hO.selT (Ls := [Blk b5 [.int .i64 a0.f0, .int .i64 a0.f1, .slice A9 y7.length c10] 24, Blk b6 [.int .i64 0, .int .i64 0, .slice none 0 0] 24, Row (Tg G k24) 24 (.slice A9 y7.length c10) (mixl 0 y7)]) [2, 1, 0] 3 rfl rfl rfl⟩
  clear hF hO ho437 ko437
  refine TC.loop (fun n438 a W => ∃ (l337 : (List S24)) (x342 : Int) (A338 : Option Addr) (c339 : Nat), types_Copy.l0 rec10 y7 n438 l337 x342 = some o437 ∧ l337.length = y7.length ∧ Fr 25 a [(1, .pointer (some ⟨b5, 0, none⟩)), (2, .pointer (some ⟨b6, 0, none⟩)), (10, .slice A338 l337.length c339), (11, .int .i64 (y7.length : Int)), (12, .int .i64 x342)] ∧ Own G (Blk b5 [.int .i64 a0.f0, .int .i64 a0.f1, .slice A338 l337.length c339] 24 :: Blk b6 [.int .i64 0, .int .i64 0, .slice none 0 0] 24 :: Row (Tg G k24) 24 (.slice A338 l337.length c339) (mixl x342 l337) :: L) W) ?_ ?_ hS
  ·
   rintro a W ⟨l337, x342, A338, c339, h, hl341, hF, hO⟩
   exact none_no h
  ·
   clear hS
   rintro n438 a W ⟨l337, x342, A338, c339, h, hl341, hF, hO⟩
   rw [types_Copy.l0] at h
   refine TC.use ?_ hF hO
   clear hF hO
   refine TC.seq ?_
   refine TC.region ?_
   refine TL.cons (TO.val rfl rfl rfl (Val.cmp rfl rfl run_lss) ?_)
   refine TL.nil ?_
   refine TQ.then_ ?_
   refine TC.seq ?_
   refine TC.cond_p rfl h (fun hc530 h => ?_) (fun hc530 h => ?_)
   ·
    refine TC.skip ?_
    refine TQ.then_ ?_
    refine TC.seq ?_
    refine TC.block ?_
    refine TC.seq ?_
    refine TC.region ?_
    refine TL.cons (TO.val rfl rfl rfl (Val.move rfl) ?_)
    refine TK.sel (Ls := [Row (Tg G k24) 24 (.slice A338 l337.length c339) (mixl x342 l337), Blk b5 [.int .i64 a0.f0, .int .i64 a0.f1, .slice A338 l337.length c339] 24, Blk b6 [.int .i64 0, .int .i64 0, .slice none 0 0] 24]) [2, 0, 1] 3 rfl rfl rfl ?_
    refine TK.share (fun G575 e576 hs577 hb578 => ?_)
    have rd579 : Rd G575 k24 A338 l337 := Rd.mixed (Rd.row hs577) e576
    have le580 : l337.length ≤ c339 := (by have h_ := Row.le hs577; rwa [mixl_length] at h_)
    obtain ⟨y581, hx582, h⟩ := bind_no h
    obtain ⟨ad583, cs589, hA584, hi585, hj586, hcl587, hK588⟩ := Rd.at rd579 hx582
    obtain ⟨A590, c591, rfl, hr592, hl593⟩ := k24_openR hK588
    refine TL.cons (TO.val rfl rfl rfl (Val.indexAddr Tryd.underlying22 fsz24 rfl hA584 rfl hi585 hj586) ?_)
    refine TL.cons (TO.val rfl rfl rfl (Val.loadsS (cs := [.int .i64 y581.f0, .int .i64 y581.f1, .slice A590 y581.f2.length c591]) agg24 fsz24 rfl rfl (Cl.sub (off := 0) (n := 3) hcl587 rfl)) ?_)
    refine TL.cons (TL.alloc (cs := [.int .i64 0, .int .i64 0, .slice none 0 0]) rfl rfl zr24 rfl (fun b594 => ?_))
    refine TL.cons (TO.val rfl rfl rfl (Val.assign rfl) ?_)
    refine TL.cons (TL.store 0 (ds := [.int .i64 y581.f0, .int .i64 y581.f1, .slice A590 y581.f2.length c591]) (cs' := [.int .i64 y581.f0, .int .i64 y581.f1, .slice A590 y581.f2.length c591]) (L' := (Blk b594 [.int .i64 y581.f0, .int .i64 y581.f1, .slice A590 y581.f2.length c591] 24 :: Blk b5 [.int .i64 a0.f0, .int .i64 a0.f1, .slice A338 l337.length c339] 24 :: Blk b6 [.int .i64 0, .int .i64 0, .slice none 0 0] 24 :: L)) rfl fsz24 rfl rfl rfl rfl rfl (Nat.le_of_ble_eq_true rfl) rfl rfl ?_)
    refine TL.nil ?_
    refine TQ.then_ ?_
    refine TC.regionAny [6] [0, 1, 2, 3, 5] mixed (by kernel_rfl) ?_
    refine TA.take 0 rfl (by kernel_rfl) rfl (PQ.inB (PQ.then_ (PQ.then_ (PQ.inB (PQ.then_ (PQ.then_ PQ.body)))))) rfl (Val.fieldAddrB Tryd.underlying24 rfl fsz22 rfl rfl rfl) (fun W hO => hO) ?_
    refine TA.take 1 rfl (by kernel_rfl) rfl (PQ.inB (PQ.then_ (PQ.then_ (PQ.inB (PQ.then_ (PQ.then_ PQ.body)))))) rfl (Val.loadB 1 agg22 rfl rfl rfl) (fun W hO => hO) ?_
    refine TA.take 2 rfl (by kernel_rfl) rfl (PQ.inB (PQ.then_ (PQ.then_ (PQ.inB (PQ.then_ (PQ.then_ PQ.body)))))) rfl (Val.move rfl) (fun W hO => hO) ?_
    refine TA.take 3 rfl (by kernel_rfl) rfl (PQ.inB (PQ.then_ (PQ.then_ (PQ.inB (PQ.then_ (PQ.then_ PQ.body)))))) rfl (Val.loadsB 0 (cs := [.int .i64 y581.f0, .int .i64 y581.f1, .slice A590 y581.f2.length c591]) agg24 fsz24 rfl rfl rfl rfl) (fun W hO => hO) ?_
    obtain ⟨y607, hy608, h⟩ := bind_no h
    refine TA.eff 4 rfl (by kernel_rfl) rfl (TL.callV (Lin := []) (args := [.agg #[.int .i64 y581.f0, .int .i64 y581.f1, .slice A590 y581.f2.length c591]]) rfl rfl rfl hbd10 rfl rfl (ih10 (a0 := y581) hr592 hl593 hy608) rfl ?_)
    rintro _ _ _ _ ⟨rfl, A609, c610, rfl, rfl⟩
    refine TA.next (fun W hO => hO.selT (Ls := [Blk b594 [.int .i64 y581.f0, .int .i64 y581.f1, .slice A590 y581.f2.length c591] 24, Blk b5 [.int .i64 a0.f0, .int .i64 a0.f1, .slice A338 l337.length c339] 24, Blk b6 [.int .i64 0, .int .i64 0, .slice none 0 0] 24]) [1, 2, 3] 4 rfl rfl rfl) ?_
    obtain ⟨y612, hy613, h⟩ := bind_no h
    obtain ⟨b614, hA615, hi616, hj617⟩ := Row.openedS hs577 (at_mixl hy613)
    refine TA.take 5 rfl (by kernel_rfl) rfl (PQ.inB (PQ.then_ (PQ.then_ (PQ.inB (PQ.then_ (PQ.then_ PQ.body)))))) rfl (Val.indexAddrW Tryd.underlying22 fsz24 rfl hA615 rfl hi616 hj617) (fun W hO => hO.selT (Ls := [Blk b594 [.int .i64 y581.f0, .int .i64 y581.f1, .slice A590 y581.f2.length c591] 24, Blk b5 [.int .i64 a0.f0, .int .i64 a0.f1, .slice A338 l337.length c339] 24, Blk b6 [.int .i64 0, .int .i64 0, .slice none 0 0] 24]) [1, 2, 3] 4 rfl rfl rfl) ?_
    refine TK.back hb578 ?_
    refine TK.sel (Ls := [Row k24 24 (.slice A609 y607.f2.length c610) y607.f2, Row (Tg G k24) 24 (.slice A338 l337.length c339) (mixl x342 l337), Blk b594 [.int .i64 y581.f0, .int .i64 y581.f1, .slice A590 y581.f2.length c591] 24, Blk b5 [.int .i64 a0.f0, .int .i64 a0.f1, .slice A338 l337.length c339] 24, Blk b6 [.int .i64 0, .int .i64 0, .slice none 0 0] 24]) [1, 0, 2, 3, 4] 5 rfl rfl rfl ?_
    refine TK.conv (ch' := El k24 y607 [.int .i64 y607.f0, .int .i64 y607.f1, .slice A609 y607.f2.length c610]) (fun B W F hh => k24_mkM W B F y607 hh) ?_
    refine TK.sel (Ls := [Row (Tg G k24) 24 (.slice A338 l337.length c339) (mixl x342 l337), El k24 y607 [.int .i64 y607.f0, .int .i64 y607.f1, .slice A609 y607.f2.length c610], Blk b594 [.int .i64 y581.f0, .int .i64 y581.f1, .slice A590 y581.f2.length c591] 24, Blk b5 [.int .i64 a0.f0, .int .i64 a0.f1, .slice A338 l337.length c339] 24, Blk b6 [.int .i64 0, .int .i64 0, .slice none 0 0] 24]) [1, 0, 2, 3, 4] 5 rfl rfl rfl ?_
    refine TA.eff 6 rfl (by kernel_rfl) rfl (TL.storeE (Tg G k24) (xs := (mixl x342 l337)) (xv := (y607, true)) (ds := [.int .i64 y607.f0, .int .i64 y607.f1, .slice A609 y607.f2.length c610]) rfl fsz24 hA615 (at_mixl hy613) rfl rfl rfl rfl (Nat.le_of_ble_eq_true rfl) (wholeMT rfl) ?_)
    refine TA.last rfl ?_
    refine TK.conv (ch' := Row (Tg G k24) 24 (.slice A338 l337.length c339) (mixl (IntKind.i64.wrap (x342 + 1)) (l337.set x342.toNat y607))) (fun B W F hh => Row.mixset hy613 hh) ?_
    rw [show (l337.length : Nat) = (l337.set x342.toNat y607).length from by simp only [List.length_set]]
    refine TA.done (by kernel_rfl) ?_
    refine TQ.inB ?_
    refine TQ.then_ ?_
    refine TC.region ?_
    refine TL.cons (TO.val rfl rfl rfl (Val.cmp rfl rfl run_add) ?_)
    refine TL.cons (TO.val rfl rfl rfl (Val.move rfl) ?_)
    refine TL.nil ?_
    exact fun a W hF hO => ⟨(l337.set x342.toNat y607), IntKind.i64.wrap (x342 + 1), A338, c339, h, (by first | rfl | assumption | (simp only [List.length_set]; first | rfl | assumption)), hF.sub ⟨rfl, rfl, rfl, rfl, rfl, trivial⟩, hO.selT (Ls := [Blk b5 [.int .i64 a0.f0, .int .i64 a0.f1, .slice A338 (l337.set x342.toNat y607).length c339] 24, Blk b6 [.int .i64 0, .int .i64 0, .slice none 0 0] 24, Row (Tg G k24) 24 (.slice A338 (l337.set x342.toNat y607).length c339) (mixl (IntKind.i64.wrap (x342 + 1)) (l337.set x342.toNat y607))]) [2, 3, 0] 4 rfl rfl rfl⟩
   ·
    refine TC.sel (Ls := [Row (Tg G k24) 24 (.slice A338 l337.length c339) (mixl x342 l337), Blk b5 [.int .i64 a0.f0, .int .i64 a0.f1, .slice A338 l337.length c339] 24, Blk b6 [.int .i64 0, .int .i64 0, .slice none 0 0] 24]) [2, 0, 1] 3 rfl rfl rfl ?_
    refine TC.conv (ch' := Row k24 24 (.slice A338 l337.length c339) l337) (fun B W F hh => Row.mix1 (by omega) B W F hh) ?_
    refine TC.exit ?_
    refine TQ.thenX ?_
    refine TQ.thenX ?_
    refine TQ.inBX ?_
    exact fun a W hF hO => ⟨l337, A338, c339, Option.some.inj h, hF.sub ⟨rfl, rfl, trivial⟩, hO.selT (Ls := [Blk b5 [.int .i64 a0.f0, .int .i64 a0.f1, .slice A338 l337.length c339] 24, Blk b6 [.int .i64 0, .int .i64 0, .slice none 0 0] 24, Row k24 24 (.slice A338 l337.length c339) l337]) [1, 2, 0] 3 rfl rfl rfl⟩
def types_Copy.fix : Nat → (S24 → Option S24)
 | 0 => (fun _ => none)
 | n + 1 => types_Copy.g (types_Copy.fix n)
theorem types_Copy.fixc : ∀ k, (∀ {G : Gd} {r : S24} {a0 : S24} {A1 : Option Addr} {c2 : Nat} (hr3 : Rd G k24 A1 a0.f2) (hl4 : a0.f2.length ≤ c2), (types_Copy.fix k) a0 = some r → Fn Tryd.prog 10 G [] [.agg #[.int .i64 a0.f0, .int .i64 a0.f1, .slice A1 a0.f2.length c2]] (types_Copy.post G r)) ∧ True
 | 0 => ⟨(by intros; contradiction), trivial⟩
 | k + 1 => by
  have ih := types_Copy.fixc k
  exact ⟨(by
   intro G r a0 A1 c2 hr3 hl4 h
   exact types_Copy.step _ ih.1 hr3 hl4 h), trivial⟩
def types_Copy.f (a0 : S24) : Option S24 := (types_Copy.fix 1000) a0
theorem types_Copy.calls {G : Gd} {r : S24} {a0 : S24} {A1 : Option Addr} {c2 : Nat} (hr3 : Rd G k24 A1 a0.f2) (hl4 : a0.f2.length ≤ c2) (h : types_Copy.f a0 = some r) : Fn Tryd.prog 10 G [] [.agg #[.int .i64 a0.f0, .int .i64 a0.f1, .slice A1 a0.f2.length c2]] (types_Copy.post G r) := (types_Copy.fixc 1000).1 hr3 hl4 h
end Go.Proofs.YtdklnjmdaecboaaDoor.Sy
set_option linter.unusedVariables false
set_option linter.unusedSimpArgs false
set_option maxRecDepth 100000
set_option maxHeartbeats 4000000
namespace Go.Proofs.YtdklnjmdaecboaaDoor.Sy
open Go Go.RowKit Go.Proofs.YtdklnjmdaecboaaDoorW.PrintWords 
def types_Pointer.f (a0 : S24) : Option S24 := (types_Copy.f a0).bind fun (y7 : S24) => some (⟨2, 0, ([y7] : List S24)⟩ : S24)
def types_Pointer.post (G : Gd) (r : S24) (v : Value) (G' : Gd) (Lr : List Ch) : Prop := G = G' ∧ ∃ (A_1 : Option Addr) (c_1 : Nat), v = .agg #[.int .i64 r.f0, .int .i64 r.f1, .slice A_1 r.f2.length c_1] ∧ Lr = [Row k24 24 (.slice A_1 r.f2.length c_1) r.f2]
theorem types_Pointer.calls {G : Gd} {r : S24} {a0 : S24} {A1 : Option Addr} {c2 : Nat} (hr3 : Rd G k24 A1 a0.f2) (hl4 : a0.f2.length ≤ c2) (h : types_Pointer.f a0 = some r) : Fn Tryd.prog 11 G [] [.agg #[.int .i64 a0.f0, .int .i64 a0.f1, .slice A1 a0.f2.length c2]] (types_Pointer.post G r) := by
 refine Fn.intro (e := [(0, .agg #[.int .i64 a0.f0, .int .i64 a0.f1, .slice A1 a0.f2.length c2])]) 7 Tryd.func11 rfl Tryd.ntmps11 rfl rfl (Nat.le_of_ble_eq_true rfl) (fun L => ?_)
 unfold types_Pointer.f at h
 refine TC.seq ?_
 refine TC.region ?_
 refine TL.cons (TL.box (cs := [.int .i64 a0.f0, .int .i64 a0.f1, .slice A1 a0.f2.length c2]) rfl rfl rfl rfl (fun b5 => ?_))
 refine TL.cons (TL.alloc (cs := [.int .i64 0, .int .i64 0, .slice none 0 0]) rfl rfl zr24 rfl (fun b6 => ?_))
 refine TL.nil ?_
 refine TQ.then_ ?_
 refine TC.seq ?_
 refine TC.region ?_
 refine TL.cons (TO.val rfl rfl rfl (Val.loadsB 1 (cs := [.int .i64 a0.f0, .int .i64 a0.f1, .slice A1 a0.f2.length c2]) agg24 fsz24 rfl rfl rfl rfl) ?_)
 obtain ⟨y7, hy8, h⟩ := bind_no h
 refine TL.cons (TL.callV (Lin := []) (args := [.agg #[.int .i64 a0.f0, .int .i64 a0.f1, .slice A1 a0.f2.length c2]]) rfl rfl rfl hbd10 rfl rfl (types_Copy.calls (a0 := a0) hr3 hl4 hy8) rfl ?_)
 rintro _ _ _ _ ⟨rfl, A9, c10, rfl, rfl⟩
 refine TL.cons (TL.buildSlice (xs := [.tmp 4]) (vs := [.agg #[.int .i64 y7.f0, .int .i64 y7.f1, .slice A9 y7.f2.length c10]]) (cs := [.int .i64 y7.f0, .int .i64 y7.f1, .slice A9 y7.f2.length c10]) rfl rfl Tryd.underlying22 zs24 rfl rfl rfl rfl rfl rfl rfl rfl (fun b12 => ?_))
 refine TL.cons (TO.val rfl rfl rfl (Val.build (cs := [.int .i64 2, .int .i64 0, .slice (some ⟨b12, 0, none⟩) 1 1]) (is := [0, 2]) (xs := [.const (.int .i64 2), .tmp 5]) Tryd.underlying24 zr24 bld24 rfl rfl rfl rfl) ?_)
 refine TL.cons (TL.store 2 (ds := [.int .i64 2, .int .i64 0, .slice (some ⟨b12, 0, none⟩) 1 1]) (cs' := [.int .i64 2, .int .i64 0, .slice (some ⟨b12, 0, none⟩) 1 1]) (L' := (Blk b12 [.int .i64 y7.f0, .int .i64 y7.f1, .slice A9 y7.f2.length c10] 24 :: Row k24 24 (.slice A9 y7.f2.length c10) y7.f2 :: Blk b6 [.int .i64 2, .int .i64 0, .slice (some ⟨b12, 0, none⟩) 1 1] 24 :: Blk b5 [.int .i64 a0.f0, .int .i64 a0.f1, .slice A1 a0.f2.length c2] 24 :: L)) rfl fsz24 rfl rfl rfl rfl rfl (Nat.le_of_ble_eq_true rfl) rfl rfl ?_)
 refine TL.nil ?_
 refine TQ.then_ ?_
 refine TC.ret ?_
 refine TQ.new (Els.nil k24) ?_
 refine TQ.sel (Ls := [Row k24 24 (.slice A9 y7.f2.length c10) y7.f2, Els k24 [] [], Blk b12 [.int .i64 y7.f0, .int .i64 y7.f1, .slice A9 y7.f2.length c10] 24, Blk b6 [.int .i64 2, .int .i64 0, .slice (some ⟨b12, 0, none⟩) 1 1] 24, Blk b5 [.int .i64 a0.f0, .int .i64 a0.f1, .slice A1 a0.f2.length c2] 24]) [2, 0, 1, 3, 4] 5 rfl rfl rfl ?_
 refine TQ.conv (ch' := El k24 y7 [.int .i64 y7.f0, .int .i64 y7.f1, .slice A9 y7.f2.length c10]) (fun B W F hh => k24_mkM W B F y7 hh) ?_
 refine TQ.sel (Ls := [Els k24 [] [], El k24 y7 [.int .i64 y7.f0, .int .i64 y7.f1, .slice A9 y7.f2.length c10], Blk b12 [.int .i64 y7.f0, .int .i64 y7.f1, .slice A9 y7.f2.length c10] 24, Blk b6 [.int .i64 2, .int .i64 0, .slice (some ⟨b12, 0, none⟩) 1 1] 24, Blk b5 [.int .i64 a0.f0, .int .i64 a0.f1, .slice A1 a0.f2.length c2] 24]) [1, 0, 2, 3, 4] 5 rfl rfl rfl ?_
 refine TQ.two (ch := Els k24 [y7] [.int .i64 y7.f0, .int .i64 y7.f1, .slice A9 y7.f2.length c10]) (Els.snoc k24) ?_
 refine TQ.sel (Ls := [Blk b12 [.int .i64 y7.f0, .int .i64 y7.f1, .slice A9 y7.f2.length c10] 24, Els k24 [y7] [.int .i64 y7.f0, .int .i64 y7.f1, .slice A9 y7.f2.length c10], Blk b6 [.int .i64 2, .int .i64 0, .slice (some ⟨b12, 0, none⟩) 1 1] 24, Blk b5 [.int .i64 a0.f0, .int .i64 a0.f1, .slice A1 a0.f2.length c2] 24]) [1, 0, 2, 3] 4 rfl rfl rfl ?_
 refine TQ.two (ch := Row k24 24 (.slice (some ⟨b12, 0, none⟩) 1 1) ([y7] : List S24)) (Row.lit k24 rfl rfl) ?_
 obtain rfl := Option.some.inj h
 exact TQ.fin (.inl rfl) rfl Tryd.results11 (.cells 1 rfl rfl agg24 fsz24 .nil) rfl (FRel.mk (Ls := [Row k24 24 (.slice (some ⟨b12, 0, none⟩) 1 1) ([y7] : List S24)]) [0] 3 (Gd.le.refl _) rfl rfl rfl ⟨rfl, (some ⟨b12, 0, none⟩), 1, rfl, rfl⟩)
end Go.Proofs.YtdklnjmdaecboaaDoor.Sy
set_option linter.unusedVariables false
set_option linter.unusedSimpArgs false
set_option maxRecDepth 100000
set_option maxHeartbeats 4000000
namespace Go.Proofs.YtdklnjmdaecboaaDoor.Sy
open Go Go.RowKit Go.Proofs.YtdklnjmdaecboaaDoorW.PrintWords 
def swageref11_Same.post (G : Gd) (r : Bool) (v : Value) (G' : Gd) (Lr : List Ch) : Prop := G = G' ∧ v = .bool r ∧ Lr = []
def swageref11_Same.l0 (rec12 : (S24 → S24 → Option Bool)) (a0 : S24) (a1 : S24) : Nat → Int → Option (Sum Bool (Unit))
 | 0, _ => none
 | n378 + 1, x258 => (if x258 < (a0.f2.length : Int) then (at? a0.f2 x258).bind fun y585 => (at? a1.f2 x258).bind fun y598 => (rec12 y585 y598).bind fun (y611 : Bool) => (if (!y611) = true then some (.inl false) else swageref11_Same.l0 rec12 a0 a1 n378 (IntKind.i64.wrap (x258 + 1))) else some (.inr ()))
def swageref11_Same.g (rec12 : (S24 → S24 → Option Bool)) (a0 : S24) (a1 : S24) : Option Bool := jn (γ := Bool) (fun (x17 : Bool) => (if x17 = true then some false else (swageref11_Same.l0 rec12 a0 a1 (a0.f2.length + 1) 0).bind fun | .inl q_ => some q_ | .inr _ => (some true))) (fun (j18 : (Bool → Option Bool)) => (if (!decide (a0.f0 = a1.f0)) = true then j18 true else (if (!decide (a0.f1 = a1.f1)) = true then j18 true else j18 (!decide ((a0.f2.length : Int) = (a1.f2.length : Int))))))
theorem swageref11_Same.step (rec12 : (S24 → S24 → Option Bool)) (ih12 : ∀ {G : Gd} {r : Bool} {a0 : S24} {a1 : S24} {A1 : Option Addr} {c2 : Nat} {A5 : Option Addr} {c6 : Nat} (hr3 : Rd G k24 A1 a0.f2) (hl4 : a0.f2.length ≤ c2) (hr7 : Rd G k24 A5 a1.f2) (hl8 : a1.f2.length ≤ c6), rec12 a0 a1 = some r → Fn Tryd.prog 12 G [] [.agg #[.int .i64 a0.f0, .int .i64 a0.f1, .slice A1 a0.f2.length c2], .agg #[.int .i64 a1.f0, .int .i64 a1.f1, .slice A5 a1.f2.length c6]] (swageref11_Same.post G r)) {G : Gd} {r : Bool} {a0 : S24} {a1 : S24} {A1 : Option Addr} {c2 : Nat} {A5 : Option Addr} {c6 : Nat} (hr3 : Rd G k24 A1 a0.f2) (hl4 : a0.f2.length ≤ c2) (hr7 : Rd G k24 A5 a1.f2) (hl8 : a1.f2.length ≤ c6) (h : swageref11_Same.g rec12 a0 a1 = some r) : Fn Tryd.prog 12 G [] [.agg #[.int .i64 a0.f0, .int .i64 a0.f1, .slice A1 a0.f2.length c2], .agg #[.int .i64 a1.f0, .int .i64 a1.f1, .slice A5 a1.f2.length c6]] (swageref11_Same.post G r) := by
 refine Fn.intro (e := [(0, .agg #[.int .i64 a0.f0, .int .i64 a0.f1, .slice A1 a0.f2.length c2]), (1, .agg #[.int .i64 a1.f0, .int .i64 a1.f1, .slice A5 a1.f2.length c6])]) 48 Tryd.func12 rfl Tryd.ntmps12 rfl rfl (Nat.le_of_ble_eq_true rfl) (fun L => ?_)
 unfold swageref11_Same.g at h
 refine TC.seq ?_
 refine TC.region ?_
 refine TL.cons (TL.box (cs := [.int .i64 a0.f0, .int .i64 a0.f1, .slice A1 a0.f2.length c2]) rfl rfl rfl rfl (fun b9 => ?_))
 refine TL.cons (TL.box (cs := [.int .i64 a1.f0, .int .i64 a1.f1, .slice A5 a1.f2.length c6]) rfl rfl rfl rfl (fun b10 => ?_))
 refine TL.cons (TO.val rfl rfl rfl (Val.assign rfl) ?_)
 refine TL.nil ?_
 refine TQ.then_ ?_
 refine TC.seq ?_
 refine TC.seq ?_
 obtain ⟨j18, hj18, h⟩ := jn_no h
 refine TC.tail (fun a W => ∃ (x17 : Bool), j18 x17 = some r ∧ Fr 48 a [(2, .pointer (some ⟨b9, 0, none⟩)), (3, .pointer (some ⟨b10, 0, none⟩)), (27, .bool x17)] ∧ Own G (Blk b10 [.int .i64 a1.f0, .int .i64 a1.f1, .slice A5 a1.f2.length c6] 24 :: Blk b9 [.int .i64 a0.f0, .int .i64 a0.f1, .slice A1 a0.f2.length c2] 24 :: L) W) ?_ ?_
 ·
  rintro a W ⟨x17, h, hF, hO⟩
  rw [hj18] at h
  refine TQ.use ?_ hF hO
  clear hF hO
  refine TQ.then_ ?_
  refine TC.cond_b rfl h (fun hc20 h => ?_) (fun hc20 h => ?_)
  ·
   refine TC.seq ?_
   refine TC.region ?_
   refine TL.cons (TO.val rfl rfl rfl (Val.assign rfl) ?_)
   refine TL.nil ?_
   refine TQ.then_ ?_
   refine TC.ret ?_
   refine TQ.thenR ?_
   obtain rfl := Option.some.inj h
   exact TQ.fin (.inl rfl) rfl Tryd.results12 (.tmp rfl .nil) rfl (FRel.mk (Ls := []) [] 2 (Gd.le.refl _) rfl rfl rfl ⟨rfl, rfl, rfl⟩)
  ·
   refine TC.skip ?_
   refine TQ.then_ ?_
   refine TC.seq ?_
   refine TC.seq ?_
   refine TC.region ?_
   refine TL.cons (TO.val rfl rfl rfl (Val.assign rfl) ?_)
   refine TL.nil ?_
   refine TQ.then_ ?_
   obtain ⟨o377, ho377, ko377⟩ := bind_no h
   clear h
   refine TC.tail (fun a W => (.inr ()) = o377 ∧ Fr 48 a [] ∧ Own G (L) W) ?_ ?_
   ·
    rintro a W ⟨rfl, hF, hO⟩
    have h := ko377
    clear ko377 ho377
    refine TQ.use ?_ hF hO
    clear hF hO
    refine TQ.then_ ?_
    refine TC.seq ?_
    refine TC.region ?_
    refine TL.cons (TO.val rfl rfl rfl (Val.assign rfl) ?_)
    refine TL.nil ?_
    refine TQ.then_ ?_
    refine TC.ret ?_
    obtain rfl := Option.some.inj h
    exact TQ.fin (.inl rfl) rfl Tryd.results12 (.tmp rfl .nil) rfl (FRel.mk (Ls := []) [] 0 (Gd.le.refl _) rfl rfl rfl ⟨rfl, rfl, rfl⟩)
   ·
    refine TC.block ?_
    intro a W hF hO
    have hS : ∃ (x258 : Int), swageref11_Same.l0 rec12 a0 a1 (a0.f2.length + 1) x258 = some o377 ∧ Fr 48 a [(2, .pointer (some ⟨b9, 0, none⟩)), (3, .pointer (some ⟨b10, 0, none⟩)), (5, .int .i64 x258)] ∧ Own G (Blk b10 [.int .i64 a1.f0, .int .i64 a1.f1, .slice A5 a1.f2.length c6] 24 :: Blk b9 [.int .i64 a0.f0, .int .i64 a0.f1, .slice A1 a0.f2.length c2] 24 :: L) W := by
     exact ⟨0, ho377, hF.sub ⟨rfl, rfl, rfl, trivial⟩, hO.selT (Ls := [Blk b10 [.int .i64 a1.f0, .int .i64 a1.f1, .slice A5 a1.f2.length c6] 24, Blk b9 [.int .i64 a0.f0, .int .i64 a0.f1, .slice A1 a0.f2.length c2] 24]) [0, 1] 2 rfl rfl rfl⟩
    clear hF hO ho377
    refine TC.loop (fun n378 a W => ∃ (x258 : Int), swageref11_Same.l0 rec12 a0 a1 n378 x258 = some o377 ∧ Fr 48 a [(2, .pointer (some ⟨b9, 0, none⟩)), (3, .pointer (some ⟨b10, 0, none⟩)), (5, .int .i64 x258)] ∧ Own G (Blk b10 [.int .i64 a1.f0, .int .i64 a1.f1, .slice A5 a1.f2.length c6] 24 :: Blk b9 [.int .i64 a0.f0, .int .i64 a0.f1, .slice A1 a0.f2.length c2] 24 :: L) W) ?_ ?_ hS
    ·
     rintro a W ⟨x258, h, hF, hO⟩
     exact none_no h
    ·
     clear hS
     rintro n378 a W ⟨x258, h, hF, hO⟩
     rw [swageref11_Same.l0] at h
     refine TC.use ?_ hF hO
     clear hF hO
     refine TC.seq ?_
     refine TC.seq ?_
     refine TC.region ?_
     refine TL.cons (TO.val rfl rfl rfl (Val.move rfl) ?_)
     refine TL.cons (TO.val rfl rfl rfl (Val.fieldAddrB Tryd.underlying24 rfl fsz22 rfl rfl rfl) ?_)
     refine TL.cons (TO.val rfl rfl rfl (Val.loadB 1 agg22 rfl rfl rfl) ?_)
     refine TL.cons (TO.val rfl rfl rfl (Val.len Tryd.underlying22 rfl) ?_)
     refine TL.cons (TO.val rfl rfl rfl (Val.cmp rfl rfl run_lss) ?_)
     refine TL.nil ?_
     refine TQ.then_ ?_
     refine TC.cond_p rfl h (fun hc498 h => ?_) (fun hc498 h => ?_)
     ·
      refine TC.skip ?_
      refine TQ.then_ ?_
      refine TC.seq ?_
      refine TC.block ?_
      refine TC.seq ?_
      refine TC.regionAny [] [0, 1, 2, 3, 4, 5, 6, 7, 8, 9, 11] mixed (by kernel_rfl) ?_
      refine TA.take 0 rfl (by kernel_rfl) rfl (PQ.then_ (PQ.inB (PQ.then_ (PQ.then_ (PQ.inB (PQ.then_ (PQ.then_ PQ.body))))))) rfl (Val.fieldAddrB Tryd.underlying24 rfl fsz22 rfl rfl rfl) (fun W hO => hO) ?_
      refine TA.take 1 rfl (by kernel_rfl) rfl (PQ.then_ (PQ.inB (PQ.then_ (PQ.then_ (PQ.inB (PQ.then_ (PQ.then_ PQ.body))))))) rfl (Val.loadB 1 agg22 rfl rfl rfl) (fun W hO => hO) ?_
      refine TA.take 2 rfl (by kernel_rfl) rfl (PQ.then_ (PQ.inB (PQ.then_ (PQ.then_ (PQ.inB (PQ.then_ (PQ.then_ PQ.body))))))) rfl (Val.move rfl) (fun W hO => hO) ?_
      obtain ⟨y585, hx586, h⟩ := bind_no h
      obtain ⟨ad587, cs593, hA588, hi589, hj590, hcl591, hK592⟩ := Rd.at hr3 hx586
      obtain ⟨A594, c595, rfl, hr596, hl597⟩ := k24_openR hK592
      refine TA.take 3 rfl (by kernel_rfl) rfl (PQ.then_ (PQ.inB (PQ.then_ (PQ.then_ (PQ.inB (PQ.then_ (PQ.then_ PQ.body))))))) rfl (Val.indexAddr Tryd.underlying22 fsz24 rfl hA588 rfl hi589 hj590) (fun W hO => hO) ?_
      refine TA.take 4 rfl (by kernel_rfl) rfl (PQ.then_ (PQ.inB (PQ.then_ (PQ.then_ (PQ.inB (PQ.then_ (PQ.then_ PQ.body))))))) rfl (Val.loadsS (cs := [.int .i64 y585.f0, .int .i64 y585.f1, .slice A594 y585.f2.length c595]) agg24 fsz24 rfl rfl (Cl.sub (off := 0) (n := 3) hcl591 rfl)) (fun W hO => hO) ?_
      refine TA.take 5 rfl (by kernel_rfl) rfl (PQ.then_ (PQ.inB (PQ.then_ (PQ.then_ (PQ.inB (PQ.then_ (PQ.then_ PQ.body))))))) rfl (Val.fieldAddrB Tryd.underlying24 rfl fsz22 rfl rfl rfl) (fun W hO => hO) ?_
      refine TA.take 6 rfl (by kernel_rfl) rfl (PQ.then_ (PQ.inB (PQ.then_ (PQ.then_ (PQ.inB (PQ.then_ (PQ.then_ PQ.body))))))) rfl (Val.loadB 0 agg22 rfl rfl rfl) (fun W hO => hO) ?_
      refine TA.take 7 rfl (by kernel_rfl) rfl (PQ.then_ (PQ.inB (PQ.then_ (PQ.then_ (PQ.inB (PQ.then_ (PQ.then_ PQ.body))))))) rfl (Val.move rfl) (fun W hO => hO) ?_
      obtain ⟨y598, hx599, h⟩ := bind_no h
      obtain ⟨ad600, cs606, hA601, hi602, hj603, hcl604, hK605⟩ := Rd.at hr7 hx599
      obtain ⟨A607, c608, rfl, hr609, hl610⟩ := k24_openR hK605
      refine TA.take 8 rfl (by kernel_rfl) rfl (PQ.then_ (PQ.inB (PQ.then_ (PQ.then_ (PQ.inB (PQ.then_ (PQ.then_ PQ.body))))))) rfl (Val.indexAddr Tryd.underlying22 fsz24 rfl hA601 rfl hi602 hj603) (fun W hO => hO) ?_
      refine TA.take 9 rfl (by kernel_rfl) rfl (PQ.then_ (PQ.inB (PQ.then_ (PQ.then_ (PQ.inB (PQ.then_ (PQ.then_ PQ.body))))))) rfl (Val.loadsS (cs := [.int .i64 y598.f0, .int .i64 y598.f1, .slice A607 y598.f2.length c608]) agg24 fsz24 rfl rfl (Cl.sub (off := 0) (n := 3) hcl604 rfl)) (fun W hO => hO) ?_
      obtain ⟨y611, hy612, h⟩ := bind_no h
      refine TA.eff 10 rfl (by kernel_rfl) rfl (TL.callV (Lin := []) (args := [.agg #[.int .i64 y585.f0, .int .i64 y585.f1, .slice A594 y585.f2.length c595], .agg #[.int .i64 y598.f0, .int .i64 y598.f1, .slice A607 y598.f2.length c608]]) rfl rfl rfl hbd12 rfl rfl (ih12 (a0 := y585) (a1 := y598) hr596 hl597 hr609 hl610 hy612) rfl ?_)
      rintro _ _ _ _ ⟨rfl, rfl, rfl⟩
      refine TA.next (fun W hO => hO) ?_
      refine TA.take 11 rfl (by kernel_rfl) rfl (PQ.then_ (PQ.inB (PQ.then_ (PQ.then_ (PQ.inB (PQ.then_ (PQ.then_ PQ.body))))))) rfl (Val.assign rfl) (fun W hO => hO) ?_
      refine TA.done (by kernel_rfl) ?_
      refine TQ.then_ ?_
      refine TC.seq ?_
      refine TC.region ?_
      refine TL.cons (TO.val rfl rfl rfl (Val.move rfl) ?_)
      refine TL.cons (TO.val rfl rfl rfl (Val.not_ rfl) ?_)
      refine TL.nil ?_
      refine TQ.then_ ?_
      refine TC.cond_b rfl h (fun hc614 h => ?_) (fun hc614 h => ?_)
      ·
       refine TC.seq ?_
       refine TC.region ?_
       refine TL.cons (TO.val rfl rfl rfl (Val.assign rfl) ?_)
       refine TL.nil ?_
       refine TQ.then_ ?_
       refine TC.ret ?_
       refine TQ.inBR ?_
       refine TQ.thenR ?_
       refine TQ.thenR ?_
       refine TQ.inBR ?_
       refine TQ.thenR ?_
       refine TQ.thenR ?_
       obtain rfl := Option.some.inj h
       have h := ko377
       obtain rfl := Option.some.inj h
       exact TQ.fin (.inl rfl) rfl Tryd.results12 (.tmp rfl .nil) rfl (FRel.mk (Ls := []) [] 2 (Gd.le.refl _) rfl rfl rfl ⟨rfl, rfl, rfl⟩)
      ·
       refine TC.skip ?_
       refine TQ.inB ?_
       refine TQ.then_ ?_
       refine TC.region ?_
       refine TL.cons (TO.val rfl rfl rfl (Val.move rfl) ?_)
       refine TL.cons (TO.val rfl rfl rfl (Val.cmp rfl rfl run_add) ?_)
       refine TL.cons (TO.val rfl rfl rfl (Val.assign rfl) ?_)
       refine TL.nil ?_
       exact fun a W hF hO => ⟨IntKind.i64.wrap (x258 + 1), h, hF.sub ⟨rfl, rfl, rfl, trivial⟩, hO.selT (Ls := [Blk b10 [.int .i64 a1.f0, .int .i64 a1.f1, .slice A5 a1.f2.length c6] 24, Blk b9 [.int .i64 a0.f0, .int .i64 a0.f1, .slice A1 a0.f2.length c2] 24]) [0, 1] 2 rfl rfl rfl⟩
     ·
      refine TC.exit ?_
      refine TQ.thenX ?_
      refine TQ.thenX ?_
      refine TQ.inBX ?_
      exact fun a W hF hO => ⟨Option.some.inj h, hF.sub trivial, hO.selT (Ls := []) [] 2 rfl rfl rfl⟩
 ·
  refine TC.region ?_
  refine TL.cons (TO.val rfl rfl rfl (Val.fieldAddrB Tryd.underlying24 rfl fsz3 rfl rfl rfl) ?_)
  refine TL.cons (TO.val rfl rfl rfl (Val.loadB 1 agg3 rfl rfl rfl) ?_)
  refine TL.cons (TO.val rfl rfl rfl (Val.fieldAddrB Tryd.underlying24 rfl fsz3 rfl rfl rfl) ?_)
  refine TL.cons (TO.val rfl rfl rfl (Val.loadB 0 agg3 rfl rfl rfl) ?_)
  refine TL.cons (TO.val rfl rfl rfl (Val.cmp rfl rfl run_neq) ?_)
  refine TL.cons (TO.val rfl rfl rfl (Val.move rfl) ?_)
  refine TK.split (p := (!decide (a0.f0 = a1.f0)) = true) h (fun hg615 h => ?_) (fun hg615 h => ?_)
  ·
   have hk616 : (!decide (a0.f0 = a1.f0)) = true := hg615
   refine TL.cons (TL.not (Wt.no rfl rfl rfl hk616) rfl ?_)
   refine TL.cons (TL.not (Wt.no rfl rfl rfl hk616) rfl ?_)
   refine TL.cons (TL.not (Wt.no rfl rfl rfl hk616) rfl ?_)
   refine TL.cons (TL.not (Wt.no rfl rfl rfl hk616) rfl ?_)
   refine TL.cons (TL.not (Wt.no rfl rfl rfl hk616) rfl ?_)
   refine TL.cons (TO.val rfl rfl rfl (Val.pickY rfl hk616 rfl) ?_)
   refine TL.cons (TO.val rfl rfl rfl (Val.move rfl) ?_)
   refine TL.cons (TL.not (Wt.no rfl rfl rfl rfl) rfl ?_)
   refine TL.cons (TL.not (Wt.no rfl rfl rfl rfl) rfl ?_)
   refine TL.cons (TL.not (Wt.no rfl rfl rfl rfl) rfl ?_)
   refine TL.cons (TL.not (Wt.no rfl rfl rfl rfl) rfl ?_)
   refine TL.cons (TL.not (Wt.no rfl rfl rfl rfl) rfl ?_)
   refine TL.cons (TL.not (Wt.no rfl rfl rfl rfl) rfl ?_)
   refine TL.cons (TL.not (Wt.no rfl rfl rfl rfl) rfl ?_)
   refine TL.cons (TO.val rfl rfl rfl (Val.pickY rfl rfl rfl) ?_)
   refine TL.nil ?_
   exact fun a W hF hO => ⟨true, h, hF.sub ⟨rfl, rfl, rfl, trivial⟩, hO.selT (Ls := [Blk b10 [.int .i64 a1.f0, .int .i64 a1.f1, .slice A5 a1.f2.length c6] 24, Blk b9 [.int .i64 a0.f0, .int .i64 a0.f1, .slice A1 a0.f2.length c2] 24]) [0, 1] 2 rfl rfl rfl⟩
  ·
   have hk617 : (!decide (a0.f0 = a1.f0)) = false := (by simpa using hg615)
   refine TL.cons (TO.val (Wt.yes rfl rfl rfl hk617) rfl rfl (Val.fieldAddrB Tryd.underlying24 rfl fsz3 rfl rfl rfl) ?_)
   refine TL.cons (TO.val (Wt.yes rfl rfl rfl hk617) rfl rfl (Val.loadB 1 agg3 rfl rfl rfl) ?_)
   refine TL.cons (TO.val (Wt.yes rfl rfl rfl hk617) rfl rfl (Val.fieldAddrB Tryd.underlying24 rfl fsz3 rfl rfl rfl) ?_)
   refine TL.cons (TO.val (Wt.yes rfl rfl rfl hk617) rfl rfl (Val.loadB 0 agg3 rfl rfl rfl) ?_)
   refine TL.cons (TO.val (Wt.yes rfl rfl rfl hk617) rfl rfl (Val.cmp rfl rfl run_neq) ?_)
   refine TL.cons (TO.val rfl rfl rfl (Val.pickN rfl hk617 rfl) ?_)
   refine TL.cons (TO.val rfl rfl rfl (Val.move rfl) ?_)
   refine TK.split (p := (!decide (a0.f1 = a1.f1)) = true) h (fun hg618 h => ?_) (fun hg618 h => ?_)
   ·
    have hk619 : (!decide (a0.f1 = a1.f1)) = true := hg618
    refine TL.cons (TL.not (Wt.no rfl rfl rfl hk619) rfl ?_)
    refine TL.cons (TL.not (Wt.no rfl rfl rfl hk619) rfl ?_)
    refine TL.cons (TL.not (Wt.no rfl rfl rfl hk619) rfl ?_)
    refine TL.cons (TL.not (Wt.no rfl rfl rfl hk619) rfl ?_)
    refine TL.cons (TL.not (Wt.no rfl rfl rfl hk619) rfl ?_)
    refine TL.cons (TL.not (Wt.no rfl rfl rfl hk619) rfl ?_)
    refine TL.cons (TL.not (Wt.no rfl rfl rfl hk619) rfl ?_)
    refine TL.cons (TO.val rfl rfl rfl (Val.pickY rfl hk619 rfl) ?_)
    refine TL.nil ?_
    exact fun a W hF hO => ⟨true, h, hF.sub ⟨rfl, rfl, rfl, trivial⟩, hO.selT (Ls := [Blk b10 [.int .i64 a1.f0, .int .i64 a1.f1, .slice A5 a1.f2.length c6] 24, Blk b9 [.int .i64 a0.f0, .int .i64 a0.f1, .slice A1 a0.f2.length c2] 24]) [0, 1] 2 rfl rfl rfl⟩
   ·
    have hk620 : (!decide (a0.f1 = a1.f1)) = false := (by simpa using hg618)
    refine TL.cons (TO.val (Wt.yes rfl rfl rfl hk620) rfl rfl (Val.fieldAddrB Tryd.underlying24 rfl fsz22 rfl rfl rfl) ?_)
    refine TL.cons (TO.val (Wt.yes rfl rfl rfl hk620) rfl rfl (Val.loadB 1 agg22 rfl rfl rfl) ?_)
    refine TL.cons (TO.val (Wt.yes rfl rfl rfl hk620) rfl rfl (Val.len Tryd.underlying22 rfl) ?_)
    refine TL.cons (TO.val (Wt.yes rfl rfl rfl hk620) rfl rfl (Val.fieldAddrB Tryd.underlying24 rfl fsz22 rfl rfl rfl) ?_)
    refine TL.cons (TO.val (Wt.yes rfl rfl rfl hk620) rfl rfl (Val.loadB 0 agg22 rfl rfl rfl) ?_)
    refine TL.cons (TO.val (Wt.yes rfl rfl rfl hk620) rfl rfl (Val.len Tryd.underlying22 rfl) ?_)
    refine TL.cons (TO.val (Wt.yes rfl rfl rfl hk620) rfl rfl (Val.cmp rfl rfl run_neq) ?_)
    refine TL.cons (TO.val rfl rfl rfl (Val.pickN rfl hk620 rfl) ?_)
    refine TL.nil ?_
    exact fun a W hF hO => ⟨(!decide ((a0.f2.length : Int) = (a1.f2.length : Int))), h, hF.sub ⟨rfl, rfl, rfl, trivial⟩, hO.selT (Ls := [Blk b10 [.int .i64 a1.f0, .int .i64 a1.f1, .slice A5 a1.f2.length c6] 24, Blk b9 [.int .i64 a0.f0, .int .i64 a0.f1, .slice A1 a0.f2.length c2] 24]) [0, 1] 2 rfl rfl rfl⟩
def swageref11_Same.fix : Nat → (S24 → S24 → Option Bool)
 | 0 => (fun _ _ => none)
 | n + 1 => swageref11_Same.g (swageref11_Same.fix n)
theorem swageref11_Same.fixc : ∀ k, (∀ {G : Gd} {r : Bool} {a0 : S24} {a1 : S24} {A1 : Option Addr} {c2 : Nat} {A5 : Option Addr} {c6 : Nat} (hr3 : Rd G k24 A1 a0.f2) (hl4 : a0.f2.length ≤ c2) (hr7 : Rd G k24 A5 a1.f2) (hl8 : a1.f2.length ≤ c6), (swageref11_Same.fix k) a0 a1 = some r → Fn Tryd.prog 12 G [] [.agg #[.int .i64 a0.f0, .int .i64 a0.f1, .slice A1 a0.f2.length c2], .agg #[.int .i64 a1.f0, .int .i64 a1.f1, .slice A5 a1.f2.length c6]] (swageref11_Same.post G r)) ∧ True
 | 0 => ⟨(by intros; contradiction), trivial⟩
 | k + 1 => by
  have ih := swageref11_Same.fixc k
  exact ⟨(by
   intro G r a0 a1 A1 c2 A5 c6 hr3 hl4 hr7 hl8 h
   exact swageref11_Same.step _ ih.1 hr3 hl4 hr7 hl8 h), trivial⟩
def swageref11_Same.f (a0 : S24) (a1 : S24) : Option Bool := (swageref11_Same.fix 1000) a0 a1
theorem swageref11_Same.calls {G : Gd} {r : Bool} {a0 : S24} {a1 : S24} {A1 : Option Addr} {c2 : Nat} {A5 : Option Addr} {c6 : Nat} (hr3 : Rd G k24 A1 a0.f2) (hl4 : a0.f2.length ≤ c2) (hr7 : Rd G k24 A5 a1.f2) (hl8 : a1.f2.length ≤ c6) (h : swageref11_Same.f a0 a1 = some r) : Fn Tryd.prog 12 G [] [.agg #[.int .i64 a0.f0, .int .i64 a0.f1, .slice A1 a0.f2.length c2], .agg #[.int .i64 a1.f0, .int .i64 a1.f1, .slice A5 a1.f2.length c6]] (swageref11_Same.post G r) := (swageref11_Same.fixc 1000).1 hr3 hl4 hr7 hl8 h
end Go.Proofs.YtdklnjmdaecboaaDoor.Sy
set_option linter.unusedVariables false
set_option linter.unusedSimpArgs false
set_option maxRecDepth 100000
set_option maxHeartbeats 4000000
namespace Go.Proofs.YtdklnjmdaecboaaDoor.Sy
open Go Go.RowKit Go.Proofs.YtdklnjmdaecboaaDoorW.PrintWords 
def types_Same.post (G : Gd) (r : Bool) (v : Value) (G' : Gd) (Lr : List Ch) : Prop := G = G' ∧ v = .bool r ∧ Lr = []
def types_Same.l0 (rec19 : (S24 → S24 → Option Bool)) (a0 : S24) (a1 : S24) (j526 : (Bool → Option Bool)) : Nat → Int → Option (Sum Bool (Unit))
 | 0, _ => none
 | n730 + 1, x662 => (if x662 < (a0.f2.length : Int) then (at? a0.f2 x662).bind fun y831 => (at? a1.f2 x662).bind fun y845 => (rec19 y831 y845).bind fun (y859 : Bool) => (if (!y859) = true then (j526 false).bind fun q_ => some (.inl q_) else types_Same.l0 rec19 a0 a1 j526 n730 (IntKind.i64.wrap (x662 + 1))) else some (.inr ()))
def types_Same.g (rec19 : (S24 → S24 → Option Bool)) (a0 : S24) (a1 : S24) : Option Bool := (if a0.f0 = a1.f0 then (if a0.f1 = a1.f1 then jn (γ := Bool) (fun (x525 : Bool) => some x525) (fun (j526 : (Bool → Option Bool)) => (if (!decide ((a0.f2.length : Int) = (a1.f2.length : Int))) = true then j526 false else (types_Same.l0 rec19 a0 a1 j526 (a0.f2.length + 1) 0).bind fun | .inl q_ => some q_ | .inr _ => (j526 true))) else some false) else some false)
theorem types_Same.step (rec19 : (S24 → S24 → Option Bool)) (ih19 : ∀ {G : Gd} {r : Bool} {a0 : S24} {a1 : S24} {A1 : Option Addr} {c2 : Nat} {A5 : Option Addr} {c6 : Nat} (hr3 : Rd G k24 A1 a0.f2) (hl4 : a0.f2.length ≤ c2) (hr7 : Rd G k24 A5 a1.f2) (hl8 : a1.f2.length ≤ c6), rec19 a0 a1 = some r → Fn Tryd.prog 19 G [] [.agg #[.int .i64 a0.f0, .int .i64 a0.f1, .slice A1 a0.f2.length c2], .agg #[.int .i64 a1.f0, .int .i64 a1.f1, .slice A5 a1.f2.length c6]] (types_Same.post G r)) {G : Gd} {r : Bool} {a0 : S24} {a1 : S24} {A1 : Option Addr} {c2 : Nat} {A5 : Option Addr} {c6 : Nat} (hr3 : Rd G k24 A1 a0.f2) (hl4 : a0.f2.length ≤ c2) (hr7 : Rd G k24 A5 a1.f2) (hl8 : a1.f2.length ≤ c6) (h : types_Same.g rec19 a0 a1 = some r) : Fn Tryd.prog 19 G [] [.agg #[.int .i64 a0.f0, .int .i64 a0.f1, .slice A1 a0.f2.length c2], .agg #[.int .i64 a1.f0, .int .i64 a1.f1, .slice A5 a1.f2.length c6]] (types_Same.post G r) := by
 refine Fn.intro (e := [(0, .agg #[.int .i64 a0.f0, .int .i64 a0.f1, .slice A1 a0.f2.length c2]), (1, .agg #[.int .i64 a1.f0, .int .i64 a1.f1, .slice A5 a1.f2.length c6])]) 24 Tryd.func19 rfl Tryd.ntmps19 rfl rfl (Nat.le_of_ble_eq_true rfl) (fun L => ?_)
 unfold types_Same.g at h
 refine TC.seq ?_
 refine TC.region ?_
 refine TL.cons (TL.box (cs := [.int .i64 a0.f0, .int .i64 a0.f1, .slice A1 a0.f2.length c2]) rfl rfl rfl rfl (fun b9 => ?_))
 refine TL.cons (TL.box (cs := [.int .i64 a1.f0, .int .i64 a1.f1, .slice A5 a1.f2.length c6]) rfl rfl rfl rfl (fun b10 => ?_))
 refine TL.cons (TO.val rfl rfl rfl (Val.assign rfl) ?_)
 refine TL.nil ?_
 refine TQ.then_ ?_
 refine TC.seq ?_
 refine TC.region ?_
 refine TL.cons (TO.val rfl rfl rfl (Val.fieldAddrB Tryd.underlying24 rfl fsz3 rfl rfl rfl) ?_)
 refine TL.cons (TO.val rfl rfl rfl (Val.loadB 1 agg3 rfl rfl rfl) ?_)
 refine TL.cons (TO.val rfl rfl rfl (Val.fieldAddrB Tryd.underlying24 rfl fsz3 rfl rfl rfl) ?_)
 refine TL.cons (TO.val rfl rfl rfl (Val.loadB 0 agg3 rfl rfl rfl) ?_)
 refine TL.cons (TO.val rfl rfl rfl (Val.cmp rfl rfl run_eql) ?_)
 refine TL.cons (TO.val rfl rfl rfl (Val.move rfl) ?_)
 refine TK.split (p := a0.f0 = a1.f0) h (fun hg320 h => ?_) (fun hg320 h => ?_)
 ·
  have hk321 : decide (a0.f0 = a1.f0) = true := decide_eq_true hg320
  refine TL.cons (TO.val (Wt.yes rfl rfl rfl hk321) rfl rfl (Val.fieldAddrB Tryd.underlying24 rfl fsz3 rfl rfl rfl) ?_)
  refine TL.cons (TO.val (Wt.yes rfl rfl rfl hk321) rfl rfl (Val.loadB 1 agg3 rfl rfl rfl) ?_)
  refine TL.cons (TO.val (Wt.yes rfl rfl rfl hk321) rfl rfl (Val.fieldAddrB Tryd.underlying24 rfl fsz3 rfl rfl rfl) ?_)
  refine TL.cons (TO.val (Wt.yes rfl rfl rfl hk321) rfl rfl (Val.loadB 0 agg3 rfl rfl rfl) ?_)
  refine TL.cons (TO.val (Wt.yes rfl rfl rfl hk321) rfl rfl (Val.cmp rfl rfl run_eql) ?_)
  refine TL.cons (TO.val rfl rfl rfl (Val.pickY rfl hk321 rfl) ?_)
  refine TL.cons (TO.val rfl rfl rfl (Val.move rfl) ?_)
  refine TK.split (p := a0.f1 = a1.f1) h (fun hg322 h => ?_) (fun hg322 h => ?_)
  ·
   have hk323 : decide (a0.f1 = a1.f1) = true := decide_eq_true hg322
   refine TL.cons (TO.val (Wt.yes rfl rfl rfl hk323) rfl rfl (Val.fieldAddrB Tryd.underlying24 rfl fsz22 rfl rfl rfl) ?_)
   refine TL.cons (TO.val (Wt.yes rfl rfl rfl hk323) rfl rfl (Val.loadB 1 agg22 rfl rfl rfl) ?_)
   refine TL.cons (TO.val (Wt.yes rfl rfl rfl hk323) rfl rfl (Val.fieldAddrB Tryd.underlying24 rfl fsz22 rfl rfl rfl) ?_)
   refine TL.cons (TO.val (Wt.yes rfl rfl rfl hk323) rfl rfl (Val.loadB 0 agg22 rfl rfl rfl) ?_)
   refine TL.cons (TO.inl (args := [.slice A1 a0.f2.length c2, .slice A5 a1.f2.length c6, .func (.func 19) #[] #[]]) (e' := [(0, .slice A1 a0.f2.length c2), (1, .slice A5 a1.f2.length c6), (2, .func (.func 19) #[] #[])]) 32 (Wt.yes rfl rfl rfl hk323) rfl hbd34 rfl rfl Tryd.func34 rfl Tryd.ntmps34 rfl rfl (Nat.le_of_ble_eq_true rfl) (fun a324 hf325 => ?_))
   obtain ⟨j526, hj526, h⟩ := jn_no h
   refine TC.after (fun en W => ∃ (x525 : Bool), j526 x525 = some r ∧ en = .returned (.bool x525) ∧ Own G (Blk b10 [.int .i64 a1.f0, .int .i64 a1.f1, .slice A5 a1.f2.length c6] 24 :: Blk b9 [.int .i64 a0.f0, .int .i64 a0.f1, .slice A1 a0.f2.length c2] 24 :: L) W) ?_ ?_
   ·
    rintro en W ⟨x525, h, rfl, hO⟩
    rw [hj526] at h
    refine (After.mk hf325 rfl ?_) W hO
    clear hO
    refine TL.cons (TO.val rfl rfl rfl (Val.pickY rfl hk323 rfl) ?_)
    refine TL.cons (TO.val rfl rfl rfl (Val.assign rfl) ?_)
    refine TL.nil ?_
    refine TQ.then_ ?_
    refine TC.ret ?_
    obtain rfl := Option.some.inj h
    exact TQ.fin (.inl rfl) rfl Tryd.results19 (.tmp rfl .nil) rfl (FRel.mk (Ls := []) [] 2 (Gd.le.refl _) rfl rfl rfl ⟨rfl, rfl, rfl⟩)
   ·
    refine TC.seq ?_
    refine TC.region ?_
    refine TL.cons (TO.val rfl rfl rfl (Val.assign rfl) ?_)
    refine TL.nil ?_
    refine TQ.then_ ?_
    refine TC.seq ?_
    refine TC.seq ?_
    refine TC.region ?_
    refine TL.cons (TO.val rfl rfl rfl (Val.move rfl) ?_)
    refine TL.cons (TO.val rfl rfl rfl (Val.len Tryd.underlying22 rfl) ?_)
    refine TL.cons (TO.val rfl rfl rfl (Val.move rfl) ?_)
    refine TL.cons (TO.val rfl rfl rfl (Val.len Tryd.underlying22 rfl) ?_)
    refine TL.cons (TO.val rfl rfl rfl (Val.cmp rfl rfl run_neq) ?_)
    refine TL.nil ?_
    refine TQ.then_ ?_
    refine TC.cond_b rfl h (fun hc528 h => ?_) (fun hc528 h => ?_)
    ·
     refine TC.seq ?_
     refine TC.region ?_
     refine TL.cons (TO.val rfl rfl rfl (Val.assign rfl) ?_)
     refine TL.nil ?_
     refine TQ.then_ ?_
     refine TC.ret ?_
     refine TQ.thenR ?_
     exact TQ.fin (v := .bool false) (.inl rfl) rfl Tryd.results34 (.tmp rfl .nil) rfl (fun W hO => ⟨false, h, rfl, hO.selT (Ls := [Blk b10 [.int .i64 a1.f0, .int .i64 a1.f1, .slice A5 a1.f2.length c6] 24, Blk b9 [.int .i64 a0.f0, .int .i64 a0.f1, .slice A1 a0.f2.length c2] 24]) [0, 1] 2 rfl rfl rfl⟩)
    ·
     refine TC.skip ?_
     refine TQ.then_ ?_
     refine TC.seq ?_
     refine TC.seq ?_
     refine TC.region ?_
     refine TL.cons (TO.val rfl rfl rfl (Val.move rfl) ?_)
     refine TL.cons (TO.val rfl rfl rfl (Val.len Tryd.underlying22 rfl) ?_)
     refine TL.cons (TO.val rfl rfl rfl (Val.move rfl) ?_)
     refine TL.nil ?_
     refine TQ.then_ ?_
     obtain ⟨o729, ho729, ko729⟩ := bind_no h
     clear h
     refine TC.tail (fun a W => (.inr ()) = o729 ∧ Fr 32 a [] ∧ Own G (Blk b10 [.int .i64 a1.f0, .int .i64 a1.f1, .slice A5 a1.f2.length c6] 24 :: Blk b9 [.int .i64 a0.f0, .int .i64 a0.f1, .slice A1 a0.f2.length c2] 24 :: L) W) ?_ ?_
     ·
      rintro a W ⟨rfl, hF, hO⟩
      have h := ko729
      clear ko729 ho729
      refine TQ.use ?_ hF hO
      clear hF hO
      refine TQ.then_ ?_
      refine TC.seq ?_
      refine TC.region ?_
      refine TL.cons (TO.val rfl rfl rfl (Val.assign rfl) ?_)
      refine TL.nil ?_
      refine TQ.then_ ?_
      refine TC.ret ?_
      exact TQ.fin (v := .bool true) (.inl rfl) rfl Tryd.results34 (.tmp rfl .nil) rfl (fun W hO => ⟨true, h, rfl, hO.selT (Ls := [Blk b10 [.int .i64 a1.f0, .int .i64 a1.f1, .slice A5 a1.f2.length c6] 24, Blk b9 [.int .i64 a0.f0, .int .i64 a0.f1, .slice A1 a0.f2.length c2] 24]) [0, 1] 2 rfl rfl rfl⟩)
     ·
      refine TC.block ?_
      intro a W hF hO
      have hS : ∃ (x662 : Int), types_Same.l0 rec19 a0 a1 j526 (a0.f2.length + 1) x662 = some o729 ∧ Fr 32 a [(1, .slice A5 a1.f2.length c6), (2, .func (.func 19) #[] #[]), (15, .slice A1 a0.f2.length c2), (16, .int .i64 (a0.f2.length : Int)), (17, .int .i64 x662)] ∧ Own G (Blk b10 [.int .i64 a1.f0, .int .i64 a1.f1, .slice A5 a1.f2.length c6] 24 :: Blk b9 [.int .i64 a0.f0, .int .i64 a0.f1, .slice A1 a0.f2.length c2] 24 :: L) W := by
       exact ⟨0, ho729, hF.sub ⟨rfl, rfl, rfl, rfl, rfl, trivial⟩, hO.selT (Ls := [Blk b10 [.int .i64 a1.f0, .int .i64 a1.f1, .slice A5 a1.f2.length c6] 24, Blk b9 [.int .i64 a0.f0, .int .i64 a0.f1, .slice A1 a0.f2.length c2] 24]) [0, 1] 2 rfl rfl rfl⟩
      clear hF hO ho729
      refine TC.loop (fun n730 a W => ∃ (x662 : Int), types_Same.l0 rec19 a0 a1 j526 n730 x662 = some o729 ∧ Fr 32 a [(1, .slice A5 a1.f2.length c6), (2, .func (.func 19) #[] #[]), (15, .slice A1 a0.f2.length c2), (16, .int .i64 (a0.f2.length : Int)), (17, .int .i64 x662)] ∧ Own G (Blk b10 [.int .i64 a1.f0, .int .i64 a1.f1, .slice A5 a1.f2.length c6] 24 :: Blk b9 [.int .i64 a0.f0, .int .i64 a0.f1, .slice A1 a0.f2.length c2] 24 :: L) W) ?_ ?_ hS
      ·
       rintro a W ⟨x662, h, hF, hO⟩
       exact none_no h
      ·
       clear hS
       rintro n730 a W ⟨x662, h, hF, hO⟩
       rw [types_Same.l0] at h
       refine TC.use ?_ hF hO
       clear hF hO
       refine TC.seq ?_
       refine TC.region ?_
       refine TL.cons (TO.val rfl rfl rfl (Val.cmp rfl rfl run_lss) ?_)
       refine TL.nil ?_
       refine TQ.then_ ?_
       refine TC.seq ?_
       refine TC.cond_p rfl h (fun hc798 h => ?_) (fun hc798 h => ?_)
       ·
        refine TC.skip ?_
        refine TQ.then_ ?_
        refine TC.seq ?_
        refine TC.block ?_
        refine TC.seq ?_
        refine TC.region ?_
        refine TL.cons (TO.val rfl rfl rfl (Val.move rfl) ?_)
        obtain ⟨y831, hx832, h⟩ := bind_no h
        obtain ⟨ad833, cs839, hA834, hi835, hj836, hcl837, hK838⟩ := Rd.at hr3 hx832
        obtain ⟨A840, c841, rfl, hr842, hl843⟩ := k24_openR hK838
        refine TL.cons (TO.val rfl rfl rfl (Val.indexAddr Tryd.underlying22 fsz24 rfl hA834 rfl hi835 hj836) ?_)
        refine TL.cons (TO.val rfl rfl rfl (Val.loadsS (cs := [.int .i64 y831.f0, .int .i64 y831.f1, .slice A840 y831.f2.length c841]) agg24 fsz24 rfl rfl (Cl.sub (off := 0) (n := 3) hcl837 rfl)) ?_)
        refine TL.cons (TL.alloc (cs := [.int .i64 0, .int .i64 0, .slice none 0 0]) rfl rfl zr24 rfl (fun b844 => ?_))
        refine TL.cons (TO.val rfl rfl rfl (Val.assign rfl) ?_)
        refine TL.cons (TL.store 0 (ds := [.int .i64 y831.f0, .int .i64 y831.f1, .slice A840 y831.f2.length c841]) (cs' := [.int .i64 y831.f0, .int .i64 y831.f1, .slice A840 y831.f2.length c841]) (L' := (Blk b844 [.int .i64 y831.f0, .int .i64 y831.f1, .slice A840 y831.f2.length c841] 24 :: Blk b10 [.int .i64 a1.f0, .int .i64 a1.f1, .slice A5 a1.f2.length c6] 24 :: Blk b9 [.int .i64 a0.f0, .int .i64 a0.f1, .slice A1 a0.f2.length c2] 24 :: L)) rfl fsz24 rfl rfl rfl rfl rfl (Nat.le_of_ble_eq_true rfl) rfl rfl ?_)
        refine TL.nil ?_
        refine TQ.then_ ?_
        refine TC.seq ?_
        refine TC.region ?_
        refine TL.cons (TO.val rfl rfl rfl (Val.move rfl) ?_)
        refine TL.cons (TO.val rfl rfl rfl (Val.move rfl) ?_)
        obtain ⟨y845, hx846, h⟩ := bind_no h
        obtain ⟨ad847, cs853, hA848, hi849, hj850, hcl851, hK852⟩ := Rd.at hr7 hx846
        obtain ⟨A854, c855, rfl, hr856, hl857⟩ := k24_openR hK852
        refine TL.cons (TO.val rfl rfl rfl (Val.indexAddr Tryd.underlying22 fsz24 rfl hA848 rfl hi849 hj850) ?_)
        refine TL.cons (TO.val rfl rfl rfl (Val.loadsS (cs := [.int .i64 y845.f0, .int .i64 y845.f1, .slice A854 y845.f2.length c855]) agg24 fsz24 rfl rfl (Cl.sub (off := 0) (n := 3) hcl851 rfl)) ?_)
        refine TL.cons (TL.alloc (cs := [.int .i64 0, .int .i64 0, .slice none 0 0]) rfl rfl zr24 rfl (fun b858 => ?_))
        refine TL.cons (TL.store 0 (ds := [.int .i64 y845.f0, .int .i64 y845.f1, .slice A854 y845.f2.length c855]) (cs' := [.int .i64 y845.f0, .int .i64 y845.f1, .slice A854 y845.f2.length c855]) (L' := (Blk b858 [.int .i64 y845.f0, .int .i64 y845.f1, .slice A854 y845.f2.length c855] 24 :: Blk b844 [.int .i64 y831.f0, .int .i64 y831.f1, .slice A840 y831.f2.length c841] 24 :: Blk b10 [.int .i64 a1.f0, .int .i64 a1.f1, .slice A5 a1.f2.length c6] 24 :: Blk b9 [.int .i64 a0.f0, .int .i64 a0.f1, .slice A1 a0.f2.length c2] 24 :: L)) rfl fsz24 rfl rfl rfl rfl rfl (Nat.le_of_ble_eq_true rfl) rfl rfl ?_)
        refine TL.nil ?_
        refine TQ.then_ ?_
        refine TC.seq ?_
        refine TC.region ?_
        refine TL.cons (TO.val rfl rfl rfl (Val.move rfl) ?_)
        refine TL.cons (TO.val rfl rfl rfl (Val.loadsB 1 (cs := [.int .i64 y831.f0, .int .i64 y831.f1, .slice A840 y831.f2.length c841]) agg24 fsz24 rfl rfl rfl rfl) ?_)
        refine TL.cons (TO.val rfl rfl rfl (Val.loadsB 0 (cs := [.int .i64 y845.f0, .int .i64 y845.f1, .slice A854 y845.f2.length c855]) agg24 fsz24 rfl rfl rfl rfl) ?_)
        obtain ⟨y859, hy860, h⟩ := bind_no h
        refine TL.cons (TL.callV (Lin := []) (args := [.agg #[.int .i64 y831.f0, .int .i64 y831.f1, .slice A840 y831.f2.length c841], .agg #[.int .i64 y845.f0, .int .i64 y845.f1, .slice A854 y845.f2.length c855]]) rfl rfl rfl hbd19 rfl rfl (ih19 (a0 := y831) (a1 := y845) hr842 hl843 hr856 hl857 hy860) rfl ?_)
        rintro _ _ _ _ ⟨rfl, rfl, rfl⟩
        refine TL.cons (TO.val rfl rfl rfl (Val.not_ rfl) ?_)
        refine TL.nil ?_
        refine TQ.then_ ?_
        refine TC.cond_b rfl h (fun hc862 h => ?_) (fun hc862 h => ?_)
        ·
         refine TC.seq ?_
         refine TC.region ?_
         refine TL.cons (TO.val rfl rfl rfl (Val.assign rfl) ?_)
         refine TL.nil ?_
         refine TQ.then_ ?_
         refine TC.ret ?_
         refine TQ.inBR ?_
         refine TQ.thenR ?_
         refine TQ.thenR ?_
         refine TQ.inBR ?_
         refine TQ.thenR ?_
         refine TQ.thenR ?_
         obtain ⟨q_, hq_, h⟩ := bind_no h
         obtain rfl := Option.some.inj h
         have h := ko729
         obtain rfl := Option.some.inj h
         have h := hq_
         clear hq_
         exact TQ.fin (v := .bool false) (.inl rfl) rfl Tryd.results34 (.tmp rfl .nil) rfl (fun W hO => ⟨false, h, rfl, hO.selT (Ls := [Blk b10 [.int .i64 a1.f0, .int .i64 a1.f1, .slice A5 a1.f2.length c6] 24, Blk b9 [.int .i64 a0.f0, .int .i64 a0.f1, .slice A1 a0.f2.length c2] 24]) [2, 3] 4 rfl rfl rfl⟩)
        ·
         refine TC.skip ?_
         refine TQ.inB ?_
         refine TQ.then_ ?_
         refine TC.region ?_
         refine TL.cons (TO.val rfl rfl rfl (Val.cmp rfl rfl run_add) ?_)
         refine TL.cons (TO.val rfl rfl rfl (Val.move rfl) ?_)
         refine TL.nil ?_
         exact fun a W hF hO => ⟨IntKind.i64.wrap (x662 + 1), h, hF.sub ⟨rfl, rfl, rfl, rfl, rfl, trivial⟩, hO.selT (Ls := [Blk b10 [.int .i64 a1.f0, .int .i64 a1.f1, .slice A5 a1.f2.length c6] 24, Blk b9 [.int .i64 a0.f0, .int .i64 a0.f1, .slice A1 a0.f2.length c2] 24]) [2, 3] 4 rfl rfl rfl⟩
       ·
        refine TC.exit ?_
        refine TQ.thenX ?_
        refine TQ.thenX ?_
        refine TQ.inBX ?_
        exact fun a W hF hO => ⟨Option.some.inj h, hF.sub trivial, hO.selT (Ls := [Blk b10 [.int .i64 a1.f0, .int .i64 a1.f1, .slice A5 a1.f2.length c6] 24, Blk b9 [.int .i64 a0.f0, .int .i64 a0.f1, .slice A1 a0.f2.length c2] 24]) [0, 1] 2 rfl rfl rfl⟩
  ·
   have hk863 : decide (a0.f1 = a1.f1) = false := decide_eq_false hg322
   refine TL.cons (TL.not (Wt.no rfl rfl rfl hk863) rfl ?_)
   refine TL.cons (TL.not (Wt.no rfl rfl rfl hk863) rfl ?_)
   refine TL.cons (TL.not (Wt.no rfl rfl rfl hk863) rfl ?_)
   refine TL.cons (TL.not (Wt.no rfl rfl rfl hk863) rfl ?_)
   refine TL.cons (TL.not (Wt.no rfl rfl rfl hk863) rfl ?_)
   refine TL.cons (TO.val rfl rfl rfl (Val.pickN rfl hk863 rfl) ?_)
   refine TL.cons (TO.val rfl rfl rfl (Val.assign rfl) ?_)
   refine TL.nil ?_
   refine TQ.then_ ?_
   refine TC.ret ?_
   obtain rfl := Option.some.inj h
   exact TQ.fin (.inl rfl) rfl Tryd.results19 (.tmp rfl .nil) rfl (FRel.mk (Ls := []) [] 2 (Gd.le.refl _) rfl rfl rfl ⟨rfl, rfl, rfl⟩)
 ·
  have hk864 : decide (a0.f0 = a1.f0) = false := decide_eq_false hg320
  refine TL.cons (TL.not (Wt.no rfl rfl rfl hk864) rfl ?_)
  refine TL.cons (TL.not (Wt.no rfl rfl rfl hk864) rfl ?_)
  refine TL.cons (TL.not (Wt.no rfl rfl rfl hk864) rfl ?_)
  refine TL.cons (TL.not (Wt.no rfl rfl rfl hk864) rfl ?_)
  refine TL.cons (TL.not (Wt.no rfl rfl rfl hk864) rfl ?_)
  refine TL.cons (TO.val rfl rfl rfl (Val.pickN rfl hk864 rfl) ?_)
  refine TL.cons (TO.val rfl rfl rfl (Val.move rfl) ?_)
  refine TL.cons (TL.not (Wt.no rfl rfl rfl rfl) rfl ?_)
  refine TL.cons (TL.not (Wt.no rfl rfl rfl rfl) rfl ?_)
  refine TL.cons (TL.not (Wt.no rfl rfl rfl rfl) rfl ?_)
  refine TL.cons (TL.not (Wt.no rfl rfl rfl rfl) rfl ?_)
  refine TL.cons (TL.not (Wt.no rfl rfl rfl rfl) rfl ?_)
  refine TL.cons (TO.val rfl rfl rfl (Val.pickN rfl rfl rfl) ?_)
  refine TL.cons (TO.val rfl rfl rfl (Val.assign rfl) ?_)
  refine TL.nil ?_
  refine TQ.then_ ?_
  refine TC.ret ?_
  obtain rfl := Option.some.inj h
  exact TQ.fin (.inl rfl) rfl Tryd.results19 (.tmp rfl .nil) rfl (FRel.mk (Ls := []) [] 2 (Gd.le.refl _) rfl rfl rfl ⟨rfl, rfl, rfl⟩)
def types_Same.fix : Nat → (S24 → S24 → Option Bool)
 | 0 => (fun _ _ => none)
 | n + 1 => types_Same.g (types_Same.fix n)
theorem types_Same.fixc : ∀ k, (∀ {G : Gd} {r : Bool} {a0 : S24} {a1 : S24} {A1 : Option Addr} {c2 : Nat} {A5 : Option Addr} {c6 : Nat} (hr3 : Rd G k24 A1 a0.f2) (hl4 : a0.f2.length ≤ c2) (hr7 : Rd G k24 A5 a1.f2) (hl8 : a1.f2.length ≤ c6), (types_Same.fix k) a0 a1 = some r → Fn Tryd.prog 19 G [] [.agg #[.int .i64 a0.f0, .int .i64 a0.f1, .slice A1 a0.f2.length c2], .agg #[.int .i64 a1.f0, .int .i64 a1.f1, .slice A5 a1.f2.length c6]] (types_Same.post G r)) ∧ True
 | 0 => ⟨(by intros; contradiction), trivial⟩
 | k + 1 => by
  have ih := types_Same.fixc k
  exact ⟨(by
   intro G r a0 a1 A1 c2 A5 c6 hr3 hl4 hr7 hl8 h
   exact types_Same.step _ ih.1 hr3 hl4 hr7 hl8 h), trivial⟩
def types_Same.f (a0 : S24) (a1 : S24) : Option Bool := (types_Same.fix 1000) a0 a1
theorem types_Same.calls {G : Gd} {r : Bool} {a0 : S24} {a1 : S24} {A1 : Option Addr} {c2 : Nat} {A5 : Option Addr} {c6 : Nat} (hr3 : Rd G k24 A1 a0.f2) (hl4 : a0.f2.length ≤ c2) (hr7 : Rd G k24 A5 a1.f2) (hl8 : a1.f2.length ≤ c6) (h : types_Same.f a0 a1 = some r) : Fn Tryd.prog 19 G [] [.agg #[.int .i64 a0.f0, .int .i64 a0.f1, .slice A1 a0.f2.length c2], .agg #[.int .i64 a1.f0, .int .i64 a1.f1, .slice A5 a1.f2.length c6]] (types_Same.post G r) := (types_Same.fixc 1000).1 hr3 hl4 hr7 hl8 h
end Go.Proofs.YtdklnjmdaecboaaDoor.Sy
set_option linter.unusedVariables false
set_option linter.unusedSimpArgs false
namespace Go.Proofs.YtdklnjmdaecboaaDoor.Sy
open Go Go.RowKit Go.Proofs.YtdklnjmdaecboaaDoorW.PrintWords Go.Proofs.YtdklnjmdaecboaaDoor.SyO
mutual
/-- How many types stand in one. -/
def cnt : S24 → Nat
  | ⟨_, _, l⟩ => cntL l + 1
def cntL : List S24 → Nat
  | [] => 0
  | x :: r => cnt x + cntL r
end
mutual
/-- How deep they stand. -/
def dep : S24 → Nat
  | ⟨_, _, l⟩ => depL l + 1
def depL : List S24 → Nat
  | [] => 0
  | x :: r => max (dep x) (depL r)
end
mutual
/-- Are two alike? -/
def same : S24 → S24 → Bool
  | ⟨a, b, l⟩, ⟨c, d, k⟩ => decide (a = c) && decide (b = d) && sameL l k
def sameL : List S24 → List S24 → Bool
  | [], [] => true
  | x :: l, y :: k => same x y && sameL l k
  | [], _ :: _ => false
  | _ :: _, [] => false
end
theorem S24.eta (t : S24) : (⟨t.f0, t.f1, t.f2⟩ : S24) = t := by cases t; rfl
theorem cnt_eq (t : S24) : cnt t = cntL t.f2 + 1 := by cases t; simp [cnt]
theorem dep_eq (t : S24) : dep t = depL t.f2 + 1 := by cases t; simp [dep]
theorem same_eq (t u : S24) : same t u = (decide (t.f0 = u.f0) && decide (t.f1 = u.f1) && sameL t.f2 u.f2) := by cases t; cases u; simp [same]
theorem cntL_len : ∀ l : List S24, l.length ≤ cntL l
  | [] => by simp [cntL]
  | x :: r => by have := cntL_len r; have := cnt_eq x; simp [cntL]; omega
theorem cntL_mem {l : List S24} {y : S24} (h : y ∈ l) : cnt y ≤ cntL l := by
  induction l with
  | nil => cases h
  | cons x r ih =>
    rcases List.mem_cons.1 h with rfl | h
    · simp [cntL]
    · have := ih h; simp [cntL]; omega
theorem depL_mem {l : List S24} {y : S24} (h : y ∈ l) : dep y ≤ depL l := by
  induction l with
  | nil => cases h
  | cons x r ih =>
    rcases List.mem_cons.1 h with rfl | h
    · simp [depL]; omega
    · have := ih h; simp [depL]; omega
theorem S24.ind {P : S24 → Prop} (h : ∀ t, (∀ y ∈ t.f2, P y) → P t) (t : S24) : P t := by
  have : ∀ n t, dep t ≤ n → P t := by
    intro n
    induction n with
    | zero => intro t ht; have := dep_eq t; omega
    | succ n ih => exact fun t ht => h t (fun y hy => ih y (by have := dep_eq t; have := depL_mem hy; omega))
  exact this _ t (Nat.le_refl _)
theorem sameL_len : ∀ {l k : List S24}, sameL l k = true → l.length = k.length
  | [], [], _ => rfl
  | x :: l, y :: k, h => by
    simp [sameL] at h
    have := sameL_len h.2
    simp [this]
  | [], _ :: _, h => by simp [sameL] at h
  | _ :: _, [], h => by simp [sameL] at h
theorem sameL_refl : ∀ (l : List S24), (∀ y ∈ l, same y y = true) → sameL l l = true
  | [], _ => by simp [sameL]
  | x :: r, h => by
    simp [sameL, h x List.mem_cons_self]
    exact sameL_refl r (fun y hy => h y (List.mem_cons_of_mem _ hy))
theorem same_refl (t : S24) : same t t = true := by
  refine S24.ind (P := fun t => same t t = true) (fun t ih => ?_) t
  simp [same_eq, sameL_refl _ ih]
/-! #### Walks by number -/
theorem drop_nil {α : Type} {l : List α} {i : Nat} (h : l.drop i = []) : ¬ ((i : Int) < (l.length : Int)) := by
  have := List.drop_eq_nil_iff.1 h; omega
theorem drop_cons {α : Type} {l r : List α} {y : α} {i : Nat} (h : l.drop i = y :: r) : (i : Int) < (l.length : Int) ∧ at? l (i : Int) = some y ∧ l.drop (i + 1) = r ∧ y ∈ l := by
  have hl : i < l.length := by
    apply Classical.byContradiction; intro hn
    rw [List.drop_eq_nil_of_le (by omega)] at h; cases h
  rw [List.drop_eq_getElem_cons hl] at h
  injection h with h1 h2
  refine ⟨by omega, ?_, h2, by rw [← h1]; exact List.getElem_mem hl⟩
  unfold at?
  rw [if_pos (by omega)]
  simp [List.getElem?_eq_getElem hl, h1]
theorem w64 {n : Int} (h0 : -9223372036854775808 ≤ n) (h1 : n ≤ 9223372036854775807) : IntKind.i64.wrap n = n := by
  rw [IntKind.wrap_i64]; omega
theorem wsucc {i : Nat} (h : i ≤ 1000000) : IntKind.i64.wrap ((i : Int) + 1) = ((i + 1 : Nat) : Int) := by
  rw [w64 (by omega) (by omega)]; omega
/-! #### Counting -/
theorem count_l0 {rec : S24 → Int → Int → Option Int} {t : S24} {d : Nat} (hd : d ≤ 1000)
    (hr : ∀ y ∈ t.f2, 1 ≤ d → ∃ c : Nat, rec y 300 ((d : Int) - 1) = some (c : Int) ∧ 1 ≤ c ∧ c ≤ 301 * d ∧ (c ≤ 300 → cnt y = c ∧ dep y ≤ d)) :
    ∀ (ys : List S24) (n i k : Nat), t.f2.drop i = ys → ys.length < n → i < k → k ≤ 301 * (d + 1) →
      ∃ r, swagelaw11_count.l0 rec t 300 d n k i = some r ∧ (r = .inl 301 ∨ ∃ c : Nat, r = .inr (c : Int) ∧ 1 ≤ c ∧ c ≤ 301 * (d + 1) ∧ (c ≤ 300 → c = k + cntL ys ∧ depL ys ≤ d)) := by
  intro ys
  induction ys with
  | nil =>
    intro n i k hdr hn hik hk
    obtain ⟨n, rfl⟩ : ∃ m, n = m + 1 := ⟨n - 1, by simp at hn; omega⟩
    rw [swagelaw11_count.l0]
    simp only [jn]
    rw [if_neg (drop_nil hdr)]
    simp only [Bool.false_eq_true, if_false]
    exact ⟨_, rfl, .inr ⟨k, rfl, by omega, hk, fun h => by simp [cntL, depL]⟩⟩
  | cons y ys ih =>
    intro n i k hdr hn hik hk
    obtain ⟨n, rfl⟩ : ∃ m, n = m + 1 := ⟨n - 1, by simp at hn; omega⟩
    obtain ⟨h1, h2, h3, h4⟩ := drop_cons hdr
    rw [swagelaw11_count.l0]
    simp only [jn]
    rw [if_pos h1]
    by_cases hk3 : k ≤ 300
    · have e : decide ((k : Int) ≤ 300) = true := by simp; omega
      rw [e, if_pos rfl]
      by_cases hd1 : d < 1
      · rw [if_pos (by omega)]
        exact ⟨_, rfl, .inl (by rw [w64 (by omega) (by omega)]; rfl)⟩
      · rw [if_neg (by omega), h2]
        simp only [Option.bind_some]
        rw [w64 (n := (d : Int) - 1) (by omega) (by omega)]
        obtain ⟨c, hc, c1, c2, c3⟩ := hr y h4 (by omega)
        rw [hc]
        simp only [Option.bind_some]
        rw [w64 (n := (k : Int) + c) (by omega) (by omega), wsucc (by omega)]
        obtain ⟨r, hr1, hr2⟩ := ih n (i + 1) (k + c) h3 (by simp at hn; omega) (by omega) (by omega)
        refine ⟨r, by rw [← hr1]; simp, ?_⟩
        rcases hr2 with h | ⟨q, q1, q2, q3, q4⟩
        · exact .inl h
        · refine .inr ⟨q, q1, q2, q3, fun hq => ?_⟩
          obtain ⟨a1, a2⟩ := q4 hq
          obtain ⟨b1, b2⟩ := c3 (by omega)
          simp only [cntL, depL]; omega
    · have e : decide ((k : Int) ≤ 300) = false := by simp; omega
      rw [e]
      simp only [Bool.false_eq_true, if_false]
      exact ⟨_, rfl, .inr ⟨k, rfl, by omega, hk, fun h => absurd h (by omega)⟩⟩
theorem count_fix : ∀ (m : Nat) (t : S24) (d : Nat), d < m → d ≤ 1000 → ∃ c : Nat, swagelaw11_count.fix m t 300 d = some (c : Int) ∧ 1 ≤ c ∧ c ≤ 301 * (d + 1) ∧ (c ≤ 300 → cnt t = c ∧ dep t ≤ d + 1)
  | 0, _, _, h, _ => by omega
  | m + 1, t, d, h, hd => by
    have hr : ∀ y ∈ t.f2, 1 ≤ d → ∃ c : Nat, swagelaw11_count.fix m y 300 ((d : Int) - 1) = some (c : Int) ∧ 1 ≤ c ∧ c ≤ 301 * d ∧ (c ≤ 300 → cnt y = c ∧ dep y ≤ d) := by
      intro y _ hd1
      obtain ⟨e, rfl⟩ : ∃ e, d = e + 1 := ⟨d - 1, by omega⟩
      obtain ⟨c, c1, c2, c3, c4⟩ := count_fix m y e (by omega) (by omega)
      refine ⟨c, ?_, c2, c3, c4⟩
      rw [← c1]
      congr 1; omega
    obtain ⟨r, h1, h2⟩ := count_l0 hd hr t.f2 (t.f2.length + 1) 0 1 (by simp) (by omega) (by omega) (by omega)
    show ∃ c : Nat, swagelaw11_count.g (swagelaw11_count.fix m) t 300 d = _ ∧ _
    unfold swagelaw11_count.g
    have h1' : swagelaw11_count.l0 (swagelaw11_count.fix m) t 300 d (t.f2.length + 1) 1 0 = some r := h1
    rw [h1']
    simp only [Option.bind_some]
    rcases h2 with rfl | ⟨c, rfl, c1, c2, c3⟩
    · exact ⟨301, rfl, by omega, by omega, fun h => by omega⟩
    · refine ⟨c, rfl, c1, c2, fun hc => ?_⟩
      obtain ⟨a1, a2⟩ := c3 hc
      have := cnt_eq t; have := dep_eq t
      omega
theorem few_f (t : S24) : ∃ b, swagelaw11_Few.f t = some b ∧ (b = true → cnt t ≤ 300 ∧ dep t ≤ 121) := by
  obtain ⟨c, c1, c2, c3, c4⟩ := count_fix 1000 t 120 (by omega) (by omega)
  unfold swagelaw11_Few.f swagelaw11_count.f
  have c1' : swagelaw11_count.fix 1000 t 300 120 = some (c : Int) := c1
  rw [c1']
  refine ⟨decide ((c : Int) ≤ 300), rfl, fun h => ?_⟩
  have h : (c : Int) ≤ 300 := by simpa using h
  obtain ⟨a1, a2⟩ := c4 (by omega)
  omega
/-! #### Copies -/
theorem rcopy_l0 {rec : S24 → Option S24} {t : S24} (hl : t.f2.length ≤ 1000) (hr : ∀ y ∈ t.f2, rec y = some y) :
    ∀ (ys : List S24) (n i : Nat) (l : List S24), t.f2.drop i = ys → ys.length < n → i ≤ t.f2.length → l.length = i → swageref11_Copy.l0 rec t n i l = some (l ++ ys) := by
  intro ys
  induction ys with
  | nil =>
    intro n i l hdr hn hi hle
    obtain ⟨n, rfl⟩ : ∃ m, n = m + 1 := ⟨n - 1, by simp at hn; omega⟩
    rw [swageref11_Copy.l0, if_neg (drop_nil hdr)]; simp
  | cons y ys ih =>
    intro n i l hdr hn hi hle
    obtain ⟨n, rfl⟩ : ∃ m, n = m + 1 := ⟨n - 1, by simp at hn; omega⟩
    obtain ⟨h1, h2, h3, h4⟩ := drop_cons hdr
    rw [swageref11_Copy.l0, if_pos h1, h2]
    simp only [Option.bind_some]
    rw [hr y h4]
    simp only [Option.bind_some]
    rw [if_pos (by omega), wsucc (by omega), ih n (i + 1) (l ++ [y]) h3 (by simp at hn; omega) (by omega) (by simp; omega)]
    simp
theorem kids_small {t : S24} (h : cnt t ≤ 700) : t.f2.length ≤ 700 ∧ ∀ y ∈ t.f2, cnt y ≤ 700 := by
  have := cnt_eq t; have := cntL_len t.f2
  exact ⟨by omega, fun y hy => by have := cntL_mem hy; omega⟩
theorem rcopy_fix : ∀ (m : Nat) (t : S24), dep t ≤ m → cnt t ≤ 700 → swageref11_Copy.fix m t = some t
  | 0, t, h, _ => by have := dep_eq t; omega
  | m + 1, t, h, hc => by
    have hd := dep_eq t
    obtain ⟨hl, hk⟩ := kids_small hc
    show swageref11_Copy.g (swageref11_Copy.fix m) t = some t
    unfold swageref11_Copy.g
    have := rcopy_l0 (rec := swageref11_Copy.fix m) (t := t) (by omega) (fun y hy => rcopy_fix m y (by have := depL_mem hy; omega) (hk y hy)) t.f2 (t.f2.length + 1) 0 [] (by simp) (by omega) (by omega) rfl
    have this' : swageref11_Copy.l0 (swageref11_Copy.fix m) t (t.f2.length + 1) 0 [] = some ([] ++ t.f2) := this
    rw [this']
    simp [S24.eta]
theorem copy_l0 {rec : S24 → Option S24} {l : List S24} (hl : l.length ≤ 1000) (hr : ∀ y ∈ l, rec y = some y) :
    ∀ (ys : List S24) (n i : Nat), l.drop i = ys → ys.length < n → i ≤ l.length → types_Copy.l0 rec l n l i = some l := by
  intro ys
  induction ys with
  | nil =>
    intro n i hdr hn hi
    obtain ⟨n, rfl⟩ : ∃ m, n = m + 1 := ⟨n - 1, by simp at hn; omega⟩
    rw [types_Copy.l0, if_neg (drop_nil hdr)]
  | cons y ys ih =>
    intro n i hdr hn hi
    obtain ⟨n, rfl⟩ : ∃ m, n = m + 1 := ⟨n - 1, by simp at hn; omega⟩
    obtain ⟨h1, h2, h3, h4⟩ := drop_cons hdr
    have hset : l.set i y = l := by
      apply List.ext_getElem?
      intro j
      rw [List.getElem?_set]
      split
      · rename_i hij
        subst hij
        have h5 : l[i]? = some y := by unfold at? at h2; rw [if_pos (by omega)] at h2; simpa using h2
        rw [if_pos (by omega), h5]
      · rfl
    rw [types_Copy.l0, if_pos h1, h2]
    simp only [Option.bind_some]
    rw [hr y h4]
    simp only [Option.bind_some, Int.toNat_natCast, hset]
    rw [wsucc (by omega), ih n (i + 1) h3 (by simp at hn; omega) (by omega)]
theorem copy_fix : ∀ (m : Nat) (t : S24), dep t ≤ m → cnt t ≤ 700 → types_Copy.fix m t = some t
  | 0, t, h, _ => by have := dep_eq t; omega
  | m + 1, t, h, hc => by
    have hd := dep_eq t
    obtain ⟨hl, hk⟩ := kids_small hc
    show types_Copy.g (types_Copy.fix m) t = some t
    unfold types_Copy.g slices_Clone_api_Type_api_Type.f
    rw [if_pos (by simp; omega)]
    simp only [Option.bind_some, List.nil_append]
    have := copy_l0 (rec := types_Copy.fix m) (l := t.f2) (by omega) (fun y hy => copy_fix m y (by have := depL_mem hy; omega) (hk y hy)) t.f2 (t.f2.length + 1) 0 (by simp) (by omega) (by omega)
    have this' : types_Copy.l0 (types_Copy.fix m) t.f2 (t.f2.length + 1) t.f2 0 = some t.f2 := this
    rw [this']
    simp [S24.eta]
/-! #### Alike -/
theorem rsame_l0 {rec : S24 → S24 → Option Bool} {t u : S24} (hl : t.f2.length ≤ 1000) (hlen : t.f2.length = u.f2.length) (hr : ∀ x ∈ t.f2, ∀ y, rec x y = some (same x y)) :
    ∀ (xs ys : List S24) (n i : Nat), t.f2.drop i = xs → u.f2.drop i = ys → xs.length < n → i ≤ t.f2.length → swageref11_Same.l0 rec t u n i = some (if sameL xs ys then .inr () else .inl false) := by
  intro xs
  induction xs with
  | nil =>
    intro ys n i hx hy hn hi
    obtain ⟨n, rfl⟩ : ∃ m, n = m + 1 := ⟨n - 1, by simp at hn; omega⟩
    have hxl := drop_nil hx
    have hy0 : ys = [] := by rw [← hy]; exact List.drop_eq_nil_of_le (by omega)
    subst hy0
    rw [swageref11_Same.l0, if_neg hxl]; simp [sameL]
  | cons x xs ih =>
    intro ys n i hx hy hn hi
    obtain ⟨n, rfl⟩ : ∃ m, n = m + 1 := ⟨n - 1, by simp at hn; omega⟩
    obtain ⟨h1, h2, h3, h4⟩ := drop_cons hx
    cases ys with
    | nil => have := drop_nil hy; omega
    | cons y ys =>
      obtain ⟨_, g2, g3, _⟩ := drop_cons hy
      rw [swageref11_Same.l0, if_pos h1, h2]
      simp only [Option.bind_some]
      rw [g2]
      simp only [Option.bind_some]
      rw [hr x h4 y]
      simp only [Option.bind_some]
      cases hs : same x y with
      | false => simp [sameL, hs]
      | true =>
        simp only [Bool.not_true, Bool.false_eq_true, if_false]
        rw [wsucc (by omega), ih ys n (i + 1) h3 g3 (by simp at hn; omega) (by omega)]
        simp [sameL, hs]
theorem rsame_fix : ∀ (m : Nat) (t u : S24), dep t ≤ m → cnt t ≤ 700 → swageref11_Same.fix m t u = some (same t u)
  | 0, t, _, h, _ => by have := dep_eq t; omega
  | m + 1, t, u, h, hc => by
    have hd := dep_eq t
    obtain ⟨hl, hk⟩ := kids_small hc
    show swageref11_Same.g (swageref11_Same.fix m) t u = _
    unfold swageref11_Same.g
    simp only [jn]
    rw [same_eq]
    by_cases h0 : t.f0 = u.f0
    · by_cases h1 : t.f1 = u.f1
      · by_cases h2 : t.f2.length = u.f2.length
        · have := rsame_l0 (rec := swageref11_Same.fix m) (t := t) (u := u) (by omega) h2 (fun x hx y => rsame_fix m x y (by have := depL_mem hx; omega) (hk x hx)) t.f2 u.f2 (t.f2.length + 1) 0 (by simp) (by simp) (by omega) (by omega)
          have this' : swageref11_Same.l0 (swageref11_Same.fix m) t u (t.f2.length + 1) 0 = some (if sameL t.f2 u.f2 then .inr () else .inl false) := this
          have h2' : ((t.f2.length : Int) = (u.f2.length : Int)) := by omega
          simp only [h0, h1, h2', decide_true, Bool.not_true, Bool.false_eq_true, if_false]
          rw [this']
          cases sameL t.f2 u.f2 <;> simp
        · have hs : sameL t.f2 u.f2 = false := by
            cases hh : sameL t.f2 u.f2 with
            | false => rfl
            | true => exact absurd (sameL_len hh) h2
          have h2' : ¬ ((t.f2.length : Int) = (u.f2.length : Int)) := by omega
          simp [h0, h1, h2', hs]
      · simp [h0, h1]
    · simp [h0]
theorem same_l0 {rec : S24 → S24 → Option Bool} {t u : S24} (hl : t.f2.length ≤ 1000) (hlen : t.f2.length = u.f2.length) (hr : ∀ x ∈ t.f2, ∀ y, rec x y = some (same x y)) :
    ∀ (xs ys : List S24) (n i : Nat), t.f2.drop i = xs → u.f2.drop i = ys → xs.length < n → i ≤ t.f2.length → types_Same.l0 rec t u (fun x => some x) n i = some (if sameL xs ys then .inr () else .inl false) := by
  intro xs
  induction xs with
  | nil =>
    intro ys n i hx hy hn hi
    obtain ⟨n, rfl⟩ : ∃ m, n = m + 1 := ⟨n - 1, by simp at hn; omega⟩
    have hxl := drop_nil hx
    have hy0 : ys = [] := by rw [← hy]; exact List.drop_eq_nil_of_le (by omega)
    subst hy0
    rw [types_Same.l0, if_neg hxl]; simp [sameL]
  | cons x xs ih =>
    intro ys n i hx hy hn hi
    obtain ⟨n, rfl⟩ : ∃ m, n = m + 1 := ⟨n - 1, by simp at hn; omega⟩
    obtain ⟨h1, h2, h3, h4⟩ := drop_cons hx
    cases ys with
    | nil => have := drop_nil hy; omega
    | cons y ys =>
      obtain ⟨_, g2, g3, _⟩ := drop_cons hy
      rw [types_Same.l0, if_pos h1, h2]
      simp only [Option.bind_some]
      rw [g2]
      simp only [Option.bind_some]
      rw [hr x h4 y]
      simp only [Option.bind_some]
      cases hs : same x y with
      | false => simp [sameL, hs]
      | true =>
        simp only [Bool.not_true, Bool.false_eq_true, if_false]
        rw [wsucc (by omega), ih ys n (i + 1) h3 g3 (by simp at hn; omega) (by omega)]
        simp [sameL, hs]
theorem same_fix : ∀ (m : Nat) (t u : S24), dep t ≤ m → cnt t ≤ 700 → types_Same.fix m t u = some (same t u)
  | 0, t, _, h, _ => by have := dep_eq t; omega
  | m + 1, t, u, h, hc => by
    have hd := dep_eq t
    obtain ⟨hl, hk⟩ := kids_small hc
    show types_Same.g (types_Same.fix m) t u = _
    unfold types_Same.g
    simp only [jn]
    rw [same_eq]
    by_cases h0 : t.f0 = u.f0
    · by_cases h1 : t.f1 = u.f1
      · by_cases h2 : t.f2.length = u.f2.length
        · have := same_l0 (rec := types_Same.fix m) (t := t) (u := u) (by omega) h2 (fun x hx y => same_fix m x y (by have := depL_mem hx; omega) (hk x hx)) t.f2 u.f2 (t.f2.length + 1) 0 (by simp) (by simp) (by omega) (by omega)
          have this' : types_Same.l0 (types_Same.fix m) t u (fun x => some x) (t.f2.length + 1) 0 = some (if sameL t.f2 u.f2 then .inr () else .inl false) := this
          have h2' : ((t.f2.length : Int) = (u.f2.length : Int)) := by omega
          simp only [h0, h1, h2', decide_true, Bool.not_true, Bool.false_eq_true, if_false]
          rw [this']
          cases sameL t.f2 u.f2 <;> simp
        · have hs : sameL t.f2 u.f2 = false := by
            cases hh : sameL t.f2 u.f2 with
            | false => rfl
            | true => exact absurd (sameL_len hh) h2
          have h2' : ¬ ((t.f2.length : Int) = (u.f2.length : Int)) := by omega
          simp [h0, h1, h2', hs]
      · simp [h0, h1]
    · simp [h0]
end Go.Proofs.YtdklnjmdaecboaaDoor.Sy
set_option linter.unusedVariables false
set_option linter.unusedSimpArgs false
set_option maxRecDepth 100000
set_option maxHeartbeats 4000000
namespace Go.Proofs.YtdklnjmdaecboaaDoor.Sy
open Go Go.RowKit Go.Proofs.YtdklnjmdaecboaaDoorW.PrintWords 
def types_kids.f (a0 : S24) : Option Bool := (if a0.f0 = 1 then jn (γ := Bool) (fun (x422 : Bool) => some x422) (fun (j423 : (Bool → Option Bool)) => (if 0 ≤ (a0.f2.length : Int) then (if (a0.f2.length : Int) ≤ 0 then j423 (decide (a0.f1 = 0)) else j423 false) else j423 false)) else (if a0.f0 = 2 then jn (γ := Bool) (fun (x522 : Bool) => some x522) (fun (j523 : (Bool → Option Bool)) => (if 1 ≤ (a0.f2.length : Int) then (if (a0.f2.length : Int) ≤ 1 then j523 (decide (a0.f1 = 0)) else j523 false) else j523 false)) else (if a0.f0 = 3 then (if (a0.f2.length : Int) = 1 then (if 1 ≤ a0.f1 then some (decide (a0.f1 ≤ 1048576)) else some false) else some false) else (if a0.f0 = 4 then jn (γ := Bool) (fun (x635 : Bool) => some x635) (fun (j636 : (Bool → Option Bool)) => (if 1 ≤ (a0.f2.length : Int) then (if (a0.f2.length : Int) ≤ 64 then j636 (decide (a0.f1 = 0)) else j636 false) else j636 false)) else some false))))
def types_kids.post (G : Gd) (r : Bool) (v : Value) (G' : Gd) (Lr : List Ch) : Prop := G = G' ∧ v = .bool r ∧ Lr = []
theorem types_kids.calls {G : Gd} {r : Bool} {a0 : S24} {A1 : Option Addr} {c2 : Nat} (hr3 : Rd G k24 A1 a0.f2) (hl4 : a0.f2.length ≤ c2) (h : types_kids.f a0 = some r) : Fn Tryd.prog 41 G [] [.agg #[.int .i64 a0.f0, .int .i64 a0.f1, .slice A1 a0.f2.length c2]] (types_kids.post G r) := by
 refine Fn.intro (e := [(0, .agg #[.int .i64 a0.f0, .int .i64 a0.f1, .slice A1 a0.f2.length c2])]) 37 Tryd.func41 rfl Tryd.ntmps41 rfl rfl (Nat.le_of_ble_eq_true rfl) (fun L => ?_)
 unfold types_kids.f at h
 refine TC.seq ?_
 refine TC.region ?_
 refine TL.cons (TL.box (cs := [.int .i64 a0.f0, .int .i64 a0.f1, .slice A1 a0.f2.length c2]) rfl rfl rfl rfl (fun b5 => ?_))
 refine TL.cons (TO.val rfl rfl rfl (Val.assign rfl) ?_)
 refine TL.nil ?_
 refine TQ.then_ ?_
 refine TC.seq ?_
 refine TC.region ?_
 refine TL.cons (TO.val rfl rfl rfl (Val.fieldAddrB Tryd.underlying24 rfl fsz22 rfl rfl rfl) ?_)
 refine TL.cons (TO.val rfl rfl rfl (Val.loadB 0 agg22 rfl rfl rfl) ?_)
 refine TL.cons (TO.val rfl rfl rfl (Val.len Tryd.underlying22 rfl) ?_)
 refine TL.cons (TL.alloc (cs := [.int .i64 0]) rfl rfl zr3 rfl (fun b6 => ?_))
 refine TL.cons (TL.store 0 (ds := [.int .i64 (a0.f2.length : Int)]) (cs' := [.int .i64 (a0.f2.length : Int)]) (L' := (Blk b6 [.int .i64 (a0.f2.length : Int)] 3 :: Blk b5 [.int .i64 a0.f0, .int .i64 a0.f1, .slice A1 a0.f2.length c2] 24 :: L)) rfl fsz3 rfl rfl rfl rfl rfl (Nat.le_of_ble_eq_true rfl) rfl rfl ?_)
 refine TL.nil ?_
 refine TQ.then_ ?_
 refine TC.seq ?_
 refine TC.region ?_
 refine TL.cons (TO.val rfl rfl rfl (Val.makeFunc (xs := []) (ys := [.pointer (some ⟨b6, 0, none⟩), .pointer (some ⟨b5, 0, none⟩)]) rfl rfl) ?_)
 refine TL.cons (TO.val rfl rfl rfl (Val.assign rfl) ?_)
 refine TL.nil ?_
 refine TQ.then_ ?_
 refine TC.seq ?_
 refine TC.seq ?_
 refine TC.region ?_
 refine TL.cons (TO.val rfl rfl rfl (Val.fieldAddrB Tryd.underlying24 rfl fsz3 rfl rfl rfl) ?_)
 refine TL.cons (TO.val rfl rfl rfl (Val.loadB 1 agg3 rfl rfl rfl) ?_)
 refine TL.nil ?_
 refine TQ.then_ ?_
 refine TC.block ?_
 refine TC.seq ?_
 refine TC.region ?_
 refine TL.cons (TO.val rfl rfl rfl (Val.cmp rfl rfl run_eql) ?_)
 refine TL.cons (TO.val rfl rfl rfl (Val.assign rfl) ?_)
 refine TL.nil ?_
 refine TQ.then_ ?_
 refine TC.cond_p rfl h (fun hc407 h => ?_) (fun hc407 h => ?_)
 ·
  refine TC.seq ?_
  refine TC.region ?_
  refine TL.cons (TO.val rfl rfl rfl (Val.move rfl) ?_)
  refine TL.cons (TO.inl (args := [.int .i64 0, .int .i64 0, .pointer (some ⟨b6, 0, none⟩), .pointer (some ⟨b5, 0, none⟩)]) (e' := [(0, .int .i64 0), (1, .int .i64 0), (2, .pointer (some ⟨b6, 0, none⟩)), (3, .pointer (some ⟨b5, 0, none⟩))]) 20 rfl rfl hbd50 rfl rfl Tryd.func50 rfl Tryd.ntmps50 rfl rfl (Nat.le_of_ble_eq_true rfl) (fun a408 hf409 => ?_))
  obtain ⟨j423, hj423, h⟩ := jn_no h
  refine TC.after (fun en W => ∃ (x422 : Bool), j423 x422 = some r ∧ en = .returned (.bool x422) ∧ Own G (Blk b5 [.int .i64 a0.f0, .int .i64 a0.f1, .slice A1 a0.f2.length c2] 24 :: Blk b6 [.int .i64 (a0.f2.length : Int)] 3 :: L) W) ?_ ?_
  ·
   rintro en W ⟨x422, h, rfl, hO⟩
   rw [hj423] at h
   refine (After.mk hf409 rfl ?_) W hO
   clear hO
   refine TL.cons (TO.val rfl rfl rfl (Val.assign rfl) ?_)
   refine TL.nil ?_
   refine TQ.then_ ?_
   refine TC.ret ?_
   refine TQ.inBR ?_
   refine TQ.thenR ?_
   obtain rfl := Option.some.inj h
   exact TQ.fin (.inl rfl) rfl Tryd.results41 (.tmp rfl .nil) rfl (FRel.mk (Ls := []) [] 2 (Gd.le.refl _) rfl rfl rfl ⟨rfl, rfl, rfl⟩)
  ·
   refine TC.seq ?_
   refine TC.region ?_
   refine TL.cons (TO.val rfl rfl rfl (Val.assign rfl) ?_)
   refine TL.nil ?_
   refine TQ.then_ ?_
   refine TC.seq ?_
   refine TC.region ?_
   refine TL.cons (TO.val rfl rfl rfl (Val.loadB 0 agg3 rfl rfl rfl) ?_)
   refine TL.cons (TO.val rfl rfl rfl (Val.move rfl) ?_)
   refine TL.cons (TO.val rfl rfl rfl (Val.cmp rfl rfl run_geq) ?_)
   refine TL.cons (TO.val rfl rfl rfl (Val.move rfl) ?_)
   refine TK.split (p := 0 ≤ (a0.f2.length : Int)) h (fun hg430 h => ?_) (fun hg430 h => ?_)
   ·
    have hk431 : decide (0 ≤ (a0.f2.length : Int)) = true := decide_eq_true hg430
    refine TL.cons (TO.val (Wt.yes rfl rfl rfl hk431) rfl rfl (Val.loadB 0 agg3 rfl rfl rfl) ?_)
    refine TL.cons (TO.val (Wt.yes rfl rfl rfl hk431) rfl rfl (Val.move rfl) ?_)
    refine TL.cons (TO.val (Wt.yes rfl rfl rfl hk431) rfl rfl (Val.cmp rfl rfl run_leq) ?_)
    refine TL.cons (TO.val rfl rfl rfl (Val.pickY rfl hk431 rfl) ?_)
    refine TL.cons (TO.val rfl rfl rfl (Val.move rfl) ?_)
    refine TK.split (p := (a0.f2.length : Int) ≤ 0) h (fun hg432 h => ?_) (fun hg432 h => ?_)
    ·
     have hk433 : decide ((a0.f2.length : Int) ≤ 0) = true := decide_eq_true hg432
     refine TL.cons (TO.val (Wt.yes rfl rfl rfl hk433) rfl rfl (Val.fieldAddrB Tryd.underlying24 rfl fsz3 rfl rfl rfl) ?_)
     refine TL.cons (TO.val (Wt.yes rfl rfl rfl hk433) rfl rfl (Val.loadB 1 agg3 rfl rfl rfl) ?_)
     refine TL.cons (TO.val (Wt.yes rfl rfl rfl hk433) rfl rfl (Val.cmp rfl rfl run_eql) ?_)
     refine TL.cons (TO.val rfl rfl rfl (Val.pickY rfl hk433 rfl) ?_)
     refine TL.cons (TO.val rfl rfl rfl (Val.assign rfl) ?_)
     refine TL.nil ?_
     refine TQ.then_ ?_
     refine TC.ret ?_
     exact TQ.fin (v := .bool (decide (a0.f1 = 0))) (.inl rfl) rfl Tryd.results50 (.tmp rfl .nil) rfl (fun W hO => ⟨decide (a0.f1 = 0), h, rfl, hO.selT (Ls := [Blk b5 [.int .i64 a0.f0, .int .i64 a0.f1, .slice A1 a0.f2.length c2] 24, Blk b6 [.int .i64 (a0.f2.length : Int)] 3]) [1, 0] 2 rfl rfl rfl⟩)
    ·
     have hk434 : decide ((a0.f2.length : Int) ≤ 0) = false := decide_eq_false hg432
     refine TL.cons (TL.not (Wt.no rfl rfl rfl hk434) rfl ?_)
     refine TL.cons (TL.not (Wt.no rfl rfl rfl hk434) rfl ?_)
     refine TL.cons (TL.not (Wt.no rfl rfl rfl hk434) rfl ?_)
     refine TL.cons (TO.val rfl rfl rfl (Val.pickN rfl hk434 rfl) ?_)
     refine TL.cons (TO.val rfl rfl rfl (Val.assign rfl) ?_)
     refine TL.nil ?_
     refine TQ.then_ ?_
     refine TC.ret ?_
     exact TQ.fin (v := .bool false) (.inl rfl) rfl Tryd.results50 (.tmp rfl .nil) rfl (fun W hO => ⟨false, h, rfl, hO.selT (Ls := [Blk b5 [.int .i64 a0.f0, .int .i64 a0.f1, .slice A1 a0.f2.length c2] 24, Blk b6 [.int .i64 (a0.f2.length : Int)] 3]) [1, 0] 2 rfl rfl rfl⟩)
   ·
    have hk435 : decide (0 ≤ (a0.f2.length : Int)) = false := decide_eq_false hg430
    refine TL.cons (TL.not (Wt.no rfl rfl rfl hk435) rfl ?_)
    refine TL.cons (TL.not (Wt.no rfl rfl rfl hk435) rfl ?_)
    refine TL.cons (TL.not (Wt.no rfl rfl rfl hk435) rfl ?_)
    refine TL.cons (TO.val rfl rfl rfl (Val.pickN rfl hk435 rfl) ?_)
    refine TL.cons (TO.val rfl rfl rfl (Val.move rfl) ?_)
    refine TL.cons (TL.not (Wt.no rfl rfl rfl rfl) rfl ?_)
    refine TL.cons (TL.not (Wt.no rfl rfl rfl rfl) rfl ?_)
    refine TL.cons (TL.not (Wt.no rfl rfl rfl rfl) rfl ?_)
    refine TL.cons (TO.val rfl rfl rfl (Val.pickN rfl rfl rfl) ?_)
    refine TL.cons (TO.val rfl rfl rfl (Val.assign rfl) ?_)
    refine TL.nil ?_
    refine TQ.then_ ?_
    refine TC.ret ?_
    exact TQ.fin (v := .bool false) (.inl rfl) rfl Tryd.results50 (.tmp rfl .nil) rfl (fun W hO => ⟨false, h, rfl, hO.selT (Ls := [Blk b5 [.int .i64 a0.f0, .int .i64 a0.f1, .slice A1 a0.f2.length c2] 24, Blk b6 [.int .i64 (a0.f2.length : Int)] 3]) [1, 0] 2 rfl rfl rfl⟩)
 ·
  refine TC.seq ?_
  refine TC.region ?_
  refine TL.cons (TO.val rfl rfl rfl (Val.cmp rfl rfl run_eql) ?_)
  refine TL.cons (TO.val rfl rfl rfl (Val.assign rfl) ?_)
  refine TL.nil ?_
  refine TQ.then_ ?_
  refine TC.cond_p rfl h (fun hc507 h => ?_) (fun hc507 h => ?_)
  ·
   refine TC.seq ?_
   refine TC.region ?_
   refine TL.cons (TO.val rfl rfl rfl (Val.move rfl) ?_)
   refine TL.cons (TO.inl (args := [.int .i64 1, .int .i64 1, .pointer (some ⟨b6, 0, none⟩), .pointer (some ⟨b5, 0, none⟩)]) (e' := [(0, .int .i64 1), (1, .int .i64 1), (2, .pointer (some ⟨b6, 0, none⟩)), (3, .pointer (some ⟨b5, 0, none⟩))]) 20 rfl rfl hbd50 rfl rfl Tryd.func50 rfl Tryd.ntmps50 rfl rfl (Nat.le_of_ble_eq_true rfl) (fun a508 hf509 => ?_))
   obtain ⟨j523, hj523, h⟩ := jn_no h
   refine TC.after (fun en W => ∃ (x522 : Bool), j523 x522 = some r ∧ en = .returned (.bool x522) ∧ Own G (Blk b5 [.int .i64 a0.f0, .int .i64 a0.f1, .slice A1 a0.f2.length c2] 24 :: Blk b6 [.int .i64 (a0.f2.length : Int)] 3 :: L) W) ?_ ?_
   ·
    rintro en W ⟨x522, h, rfl, hO⟩
    rw [hj523] at h
    refine (After.mk hf509 rfl ?_) W hO
    clear hO
    refine TL.cons (TO.val rfl rfl rfl (Val.assign rfl) ?_)
    refine TL.nil ?_
    refine TQ.then_ ?_
    refine TC.ret ?_
    refine TQ.inBR ?_
    refine TQ.thenR ?_
    obtain rfl := Option.some.inj h
    exact TQ.fin (.inl rfl) rfl Tryd.results41 (.tmp rfl .nil) rfl (FRel.mk (Ls := []) [] 2 (Gd.le.refl _) rfl rfl rfl ⟨rfl, rfl, rfl⟩)
   ·
    refine TC.seq ?_
    refine TC.region ?_
    refine TL.cons (TO.val rfl rfl rfl (Val.assign rfl) ?_)
    refine TL.nil ?_
    refine TQ.then_ ?_
    refine TC.seq ?_
    refine TC.region ?_
    refine TL.cons (TO.val rfl rfl rfl (Val.loadB 0 agg3 rfl rfl rfl) ?_)
    refine TL.cons (TO.val rfl rfl rfl (Val.move rfl) ?_)
    refine TL.cons (TO.val rfl rfl rfl (Val.cmp rfl rfl run_geq) ?_)
    refine TL.cons (TO.val rfl rfl rfl (Val.move rfl) ?_)
    refine TK.split (p := 1 ≤ (a0.f2.length : Int)) h (fun hg530 h => ?_) (fun hg530 h => ?_)
    ·
     have hk531 : decide (1 ≤ (a0.f2.length : Int)) = true := decide_eq_true hg530
     refine TL.cons (TO.val (Wt.yes rfl rfl rfl hk531) rfl rfl (Val.loadB 0 agg3 rfl rfl rfl) ?_)
     refine TL.cons (TO.val (Wt.yes rfl rfl rfl hk531) rfl rfl (Val.move rfl) ?_)
     refine TL.cons (TO.val (Wt.yes rfl rfl rfl hk531) rfl rfl (Val.cmp rfl rfl run_leq) ?_)
     refine TL.cons (TO.val rfl rfl rfl (Val.pickY rfl hk531 rfl) ?_)
     refine TL.cons (TO.val rfl rfl rfl (Val.move rfl) ?_)
     refine TK.split (p := (a0.f2.length : Int) ≤ 1) h (fun hg532 h => ?_) (fun hg532 h => ?_)
     ·
      have hk533 : decide ((a0.f2.length : Int) ≤ 1) = true := decide_eq_true hg532
      refine TL.cons (TO.val (Wt.yes rfl rfl rfl hk533) rfl rfl (Val.fieldAddrB Tryd.underlying24 rfl fsz3 rfl rfl rfl) ?_)
      refine TL.cons (TO.val (Wt.yes rfl rfl rfl hk533) rfl rfl (Val.loadB 1 agg3 rfl rfl rfl) ?_)
      refine TL.cons (TO.val (Wt.yes rfl rfl rfl hk533) rfl rfl (Val.cmp rfl rfl run_eql) ?_)
      refine TL.cons (TO.val rfl rfl rfl (Val.pickY rfl hk533 rfl) ?_)
      refine TL.cons (TO.val rfl rfl rfl (Val.assign rfl) ?_)
      refine TL.nil ?_
      refine TQ.then_ ?_
      refine TC.ret ?_
      exact TQ.fin (v := .bool (decide (a0.f1 = 0))) (.inl rfl) rfl Tryd.results50 (.tmp rfl .nil) rfl (fun W hO => ⟨decide (a0.f1 = 0), h, rfl, hO.selT (Ls := [Blk b5 [.int .i64 a0.f0, .int .i64 a0.f1, .slice A1 a0.f2.length c2] 24, Blk b6 [.int .i64 (a0.f2.length : Int)] 3]) [1, 0] 2 rfl rfl rfl⟩)
     ·
      have hk534 : decide ((a0.f2.length : Int) ≤ 1) = false := decide_eq_false hg532
      refine TL.cons (TL.not (Wt.no rfl rfl rfl hk534) rfl ?_)
      refine TL.cons (TL.not (Wt.no rfl rfl rfl hk534) rfl ?_)
      refine TL.cons (TL.not (Wt.no rfl rfl rfl hk534) rfl ?_)
      refine TL.cons (TO.val rfl rfl rfl (Val.pickN rfl hk534 rfl) ?_)
      refine TL.cons (TO.val rfl rfl rfl (Val.assign rfl) ?_)
      refine TL.nil ?_
      refine TQ.then_ ?_
      refine TC.ret ?_
      exact TQ.fin (v := .bool false) (.inl rfl) rfl Tryd.results50 (.tmp rfl .nil) rfl (fun W hO => ⟨false, h, rfl, hO.selT (Ls := [Blk b5 [.int .i64 a0.f0, .int .i64 a0.f1, .slice A1 a0.f2.length c2] 24, Blk b6 [.int .i64 (a0.f2.length : Int)] 3]) [1, 0] 2 rfl rfl rfl⟩)
    ·
     have hk535 : decide (1 ≤ (a0.f2.length : Int)) = false := decide_eq_false hg530
     refine TL.cons (TL.not (Wt.no rfl rfl rfl hk535) rfl ?_)
     refine TL.cons (TL.not (Wt.no rfl rfl rfl hk535) rfl ?_)
     refine TL.cons (TL.not (Wt.no rfl rfl rfl hk535) rfl ?_)
     refine TL.cons (TO.val rfl rfl rfl (Val.pickN rfl hk535 rfl) ?_)
     refine TL.cons (TO.val rfl rfl rfl (Val.move rfl) ?_)
     refine TL.cons (TL.not (Wt.no rfl rfl rfl rfl) rfl ?_)
     refine TL.cons (TL.not (Wt.no rfl rfl rfl rfl) rfl ?_)
     refine TL.cons (TL.not (Wt.no rfl rfl rfl rfl) rfl ?_)
     refine TL.cons (TO.val rfl rfl rfl (Val.pickN rfl rfl rfl) ?_)
     refine TL.cons (TO.val rfl rfl rfl (Val.assign rfl) ?_)
     refine TL.nil ?_
     refine TQ.then_ ?_
     refine TC.ret ?_
     exact TQ.fin (v := .bool false) (.inl rfl) rfl Tryd.results50 (.tmp rfl .nil) rfl (fun W hO => ⟨false, h, rfl, hO.selT (Ls := [Blk b5 [.int .i64 a0.f0, .int .i64 a0.f1, .slice A1 a0.f2.length c2] 24, Blk b6 [.int .i64 (a0.f2.length : Int)] 3]) [1, 0] 2 rfl rfl rfl⟩)
  ·
   refine TC.seq ?_
   refine TC.region ?_
   refine TL.cons (TO.val rfl rfl rfl (Val.cmp rfl rfl run_eql) ?_)
   refine TL.cons (TO.val rfl rfl rfl (Val.assign rfl) ?_)
   refine TL.nil ?_
   refine TQ.then_ ?_
   refine TC.cond_p rfl h (fun hc578 h => ?_) (fun hc578 h => ?_)
   ·
    refine TC.seq ?_
    refine TC.region ?_
    refine TL.cons (TO.val rfl rfl rfl (Val.loadB 0 agg3 rfl rfl rfl) ?_)
    refine TL.cons (TO.val rfl rfl rfl (Val.cmp rfl rfl run_eql) ?_)
    refine TL.cons (TO.val rfl rfl rfl (Val.move rfl) ?_)
    refine TK.split (p := (a0.f2.length : Int) = 1) h (fun hg585 h => ?_) (fun hg585 h => ?_)
    ·
     have hk586 : decide ((a0.f2.length : Int) = 1) = true := decide_eq_true hg585
     refine TL.cons (TO.val (Wt.yes rfl rfl rfl hk586) rfl rfl (Val.fieldAddrB Tryd.underlying24 rfl fsz3 rfl rfl rfl) ?_)
     refine TL.cons (TO.val (Wt.yes rfl rfl rfl hk586) rfl rfl (Val.loadB 1 agg3 rfl rfl rfl) ?_)
     refine TL.cons (TO.val (Wt.yes rfl rfl rfl hk586) rfl rfl (Val.cmp rfl rfl run_geq) ?_)
     refine TL.cons (TO.val rfl rfl rfl (Val.pickY rfl hk586 rfl) ?_)
     refine TL.cons (TO.val rfl rfl rfl (Val.move rfl) ?_)
     refine TK.split (p := 1 ≤ a0.f1) h (fun hg587 h => ?_) (fun hg587 h => ?_)
     ·
      have hk588 : decide (1 ≤ a0.f1) = true := decide_eq_true hg587
      refine TL.cons (TO.val (Wt.yes rfl rfl rfl hk588) rfl rfl (Val.fieldAddrB Tryd.underlying24 rfl fsz3 rfl rfl rfl) ?_)
      refine TL.cons (TO.val (Wt.yes rfl rfl rfl hk588) rfl rfl (Val.loadB 1 agg3 rfl rfl rfl) ?_)
      refine TL.cons (TO.val (Wt.yes rfl rfl rfl hk588) rfl rfl (Val.cmp rfl rfl run_leq) ?_)
      refine TL.cons (TO.val rfl rfl rfl (Val.pickY rfl hk588 rfl) ?_)
      refine TL.cons (TO.val rfl rfl rfl (Val.assign rfl) ?_)
      refine TL.nil ?_
      refine TQ.then_ ?_
      refine TC.ret ?_
      refine TQ.inBR ?_
      refine TQ.thenR ?_
      obtain rfl := Option.some.inj h
      exact TQ.fin (.inl rfl) rfl Tryd.results41 (.tmp rfl .nil) rfl (FRel.mk (Ls := []) [] 2 (Gd.le.refl _) rfl rfl rfl ⟨rfl, rfl, rfl⟩)
     ·
      have hk589 : decide (1 ≤ a0.f1) = false := decide_eq_false hg587
      refine TL.cons (TL.not (Wt.no rfl rfl rfl hk589) rfl ?_)
      refine TL.cons (TL.not (Wt.no rfl rfl rfl hk589) rfl ?_)
      refine TL.cons (TL.not (Wt.no rfl rfl rfl hk589) rfl ?_)
      refine TL.cons (TO.val rfl rfl rfl (Val.pickN rfl hk589 rfl) ?_)
      refine TL.cons (TO.val rfl rfl rfl (Val.assign rfl) ?_)
      refine TL.nil ?_
      refine TQ.then_ ?_
      refine TC.ret ?_
      refine TQ.inBR ?_
      refine TQ.thenR ?_
      obtain rfl := Option.some.inj h
      exact TQ.fin (.inl rfl) rfl Tryd.results41 (.tmp rfl .nil) rfl (FRel.mk (Ls := []) [] 2 (Gd.le.refl _) rfl rfl rfl ⟨rfl, rfl, rfl⟩)
    ·
     have hk590 : decide ((a0.f2.length : Int) = 1) = false := decide_eq_false hg585
     refine TL.cons (TL.not (Wt.no rfl rfl rfl hk590) rfl ?_)
     refine TL.cons (TL.not (Wt.no rfl rfl rfl hk590) rfl ?_)
     refine TL.cons (TL.not (Wt.no rfl rfl rfl hk590) rfl ?_)
     refine TL.cons (TO.val rfl rfl rfl (Val.pickN rfl hk590 rfl) ?_)
     refine TL.cons (TO.val rfl rfl rfl (Val.move rfl) ?_)
     refine TL.cons (TL.not (Wt.no rfl rfl rfl rfl) rfl ?_)
     refine TL.cons (TL.not (Wt.no rfl rfl rfl rfl) rfl ?_)
     refine TL.cons (TL.not (Wt.no rfl rfl rfl rfl) rfl ?_)
     refine TL.cons (TO.val rfl rfl rfl (Val.pickN rfl rfl rfl) ?_)
     refine TL.cons (TO.val rfl rfl rfl (Val.assign rfl) ?_)
     refine TL.nil ?_
     refine TQ.then_ ?_
     refine TC.ret ?_
     refine TQ.inBR ?_
     refine TQ.thenR ?_
     obtain rfl := Option.some.inj h
     exact TQ.fin (.inl rfl) rfl Tryd.results41 (.tmp rfl .nil) rfl (FRel.mk (Ls := []) [] 2 (Gd.le.refl _) rfl rfl rfl ⟨rfl, rfl, rfl⟩)
   ·
    refine TC.seq ?_
    refine TC.region ?_
    refine TL.cons (TO.val rfl rfl rfl (Val.cmp rfl rfl run_eql) ?_)
    refine TL.cons (TO.val rfl rfl rfl (Val.assign rfl) ?_)
    refine TL.nil ?_
    refine TQ.then_ ?_
    refine TC.cond_p rfl h (fun hc620 h => ?_) (fun hc620 h => ?_)
    ·
     refine TC.seq ?_
     refine TC.region ?_
     refine TL.cons (TO.val rfl rfl rfl (Val.move rfl) ?_)
     refine TL.cons (TO.inl (args := [.int .i64 1, .int .i64 64, .pointer (some ⟨b6, 0, none⟩), .pointer (some ⟨b5, 0, none⟩)]) (e' := [(0, .int .i64 1), (1, .int .i64 64), (2, .pointer (some ⟨b6, 0, none⟩)), (3, .pointer (some ⟨b5, 0, none⟩))]) 20 rfl rfl hbd50 rfl rfl Tryd.func50 rfl Tryd.ntmps50 rfl rfl (Nat.le_of_ble_eq_true rfl) (fun a621 hf622 => ?_))
     obtain ⟨j636, hj636, h⟩ := jn_no h
     refine TC.after (fun en W => ∃ (x635 : Bool), j636 x635 = some r ∧ en = .returned (.bool x635) ∧ Own G (Blk b5 [.int .i64 a0.f0, .int .i64 a0.f1, .slice A1 a0.f2.length c2] 24 :: Blk b6 [.int .i64 (a0.f2.length : Int)] 3 :: L) W) ?_ ?_
     ·
      rintro en W ⟨x635, h, rfl, hO⟩
      rw [hj636] at h
      refine (After.mk hf622 rfl ?_) W hO
      clear hO
      refine TL.cons (TO.val rfl rfl rfl (Val.assign rfl) ?_)
      refine TL.nil ?_
      refine TQ.then_ ?_
      refine TC.ret ?_
      refine TQ.inBR ?_
      refine TQ.thenR ?_
      obtain rfl := Option.some.inj h
      exact TQ.fin (.inl rfl) rfl Tryd.results41 (.tmp rfl .nil) rfl (FRel.mk (Ls := []) [] 2 (Gd.le.refl _) rfl rfl rfl ⟨rfl, rfl, rfl⟩)
     ·
      refine TC.seq ?_
      refine TC.region ?_
      refine TL.cons (TO.val rfl rfl rfl (Val.assign rfl) ?_)
      refine TL.nil ?_
      refine TQ.then_ ?_
      refine TC.seq ?_
      refine TC.region ?_
      refine TL.cons (TO.val rfl rfl rfl (Val.loadB 0 agg3 rfl rfl rfl) ?_)
      refine TL.cons (TO.val rfl rfl rfl (Val.move rfl) ?_)
      refine TL.cons (TO.val rfl rfl rfl (Val.cmp rfl rfl run_geq) ?_)
      refine TL.cons (TO.val rfl rfl rfl (Val.move rfl) ?_)
      refine TK.split (p := 1 ≤ (a0.f2.length : Int)) h (fun hg643 h => ?_) (fun hg643 h => ?_)
      ·
       have hk644 : decide (1 ≤ (a0.f2.length : Int)) = true := decide_eq_true hg643
       refine TL.cons (TO.val (Wt.yes rfl rfl rfl hk644) rfl rfl (Val.loadB 0 agg3 rfl rfl rfl) ?_)
       refine TL.cons (TO.val (Wt.yes rfl rfl rfl hk644) rfl rfl (Val.move rfl) ?_)
       refine TL.cons (TO.val (Wt.yes rfl rfl rfl hk644) rfl rfl (Val.cmp rfl rfl run_leq) ?_)
       refine TL.cons (TO.val rfl rfl rfl (Val.pickY rfl hk644 rfl) ?_)
       refine TL.cons (TO.val rfl rfl rfl (Val.move rfl) ?_)
       refine TK.split (p := (a0.f2.length : Int) ≤ 64) h (fun hg645 h => ?_) (fun hg645 h => ?_)
       ·
        have hk646 : decide ((a0.f2.length : Int) ≤ 64) = true := decide_eq_true hg645
        refine TL.cons (TO.val (Wt.yes rfl rfl rfl hk646) rfl rfl (Val.fieldAddrB Tryd.underlying24 rfl fsz3 rfl rfl rfl) ?_)
        refine TL.cons (TO.val (Wt.yes rfl rfl rfl hk646) rfl rfl (Val.loadB 1 agg3 rfl rfl rfl) ?_)
        refine TL.cons (TO.val (Wt.yes rfl rfl rfl hk646) rfl rfl (Val.cmp rfl rfl run_eql) ?_)
        refine TL.cons (TO.val rfl rfl rfl (Val.pickY rfl hk646 rfl) ?_)
        refine TL.cons (TO.val rfl rfl rfl (Val.assign rfl) ?_)
        refine TL.nil ?_
        refine TQ.then_ ?_
        refine TC.ret ?_
        exact TQ.fin (v := .bool (decide (a0.f1 = 0))) (.inl rfl) rfl Tryd.results50 (.tmp rfl .nil) rfl (fun W hO => ⟨decide (a0.f1 = 0), h, rfl, hO.selT (Ls := [Blk b5 [.int .i64 a0.f0, .int .i64 a0.f1, .slice A1 a0.f2.length c2] 24, Blk b6 [.int .i64 (a0.f2.length : Int)] 3]) [1, 0] 2 rfl rfl rfl⟩)
       ·
        have hk647 : decide ((a0.f2.length : Int) ≤ 64) = false := decide_eq_false hg645
        refine TL.cons (TL.not (Wt.no rfl rfl rfl hk647) rfl ?_)
        refine TL.cons (TL.not (Wt.no rfl rfl rfl hk647) rfl ?_)
        refine TL.cons (TL.not (Wt.no rfl rfl rfl hk647) rfl ?_)
        refine TL.cons (TO.val rfl rfl rfl (Val.pickN rfl hk647 rfl) ?_)
        refine TL.cons (TO.val rfl rfl rfl (Val.assign rfl) ?_)
        refine TL.nil ?_
        refine TQ.then_ ?_
        refine TC.ret ?_
        exact TQ.fin (v := .bool false) (.inl rfl) rfl Tryd.results50 (.tmp rfl .nil) rfl (fun W hO => ⟨false, h, rfl, hO.selT (Ls := [Blk b5 [.int .i64 a0.f0, .int .i64 a0.f1, .slice A1 a0.f2.length c2] 24, Blk b6 [.int .i64 (a0.f2.length : Int)] 3]) [1, 0] 2 rfl rfl rfl⟩)
      ·
       have hk648 : decide (1 ≤ (a0.f2.length : Int)) = false := decide_eq_false hg643
       refine TL.cons (TL.not (Wt.no rfl rfl rfl hk648) rfl ?_)
       refine TL.cons (TL.not (Wt.no rfl rfl rfl hk648) rfl ?_)
       refine TL.cons (TL.not (Wt.no rfl rfl rfl hk648) rfl ?_)
       refine TL.cons (TO.val rfl rfl rfl (Val.pickN rfl hk648 rfl) ?_)
       refine TL.cons (TO.val rfl rfl rfl (Val.move rfl) ?_)
       refine TL.cons (TL.not (Wt.no rfl rfl rfl rfl) rfl ?_)
       refine TL.cons (TL.not (Wt.no rfl rfl rfl rfl) rfl ?_)
       refine TL.cons (TL.not (Wt.no rfl rfl rfl rfl) rfl ?_)
       refine TL.cons (TO.val rfl rfl rfl (Val.pickN rfl rfl rfl) ?_)
       refine TL.cons (TO.val rfl rfl rfl (Val.assign rfl) ?_)
       refine TL.nil ?_
       refine TQ.then_ ?_
       refine TC.ret ?_
       exact TQ.fin (v := .bool false) (.inl rfl) rfl Tryd.results50 (.tmp rfl .nil) rfl (fun W hO => ⟨false, h, rfl, hO.selT (Ls := [Blk b5 [.int .i64 a0.f0, .int .i64 a0.f1, .slice A1 a0.f2.length c2] 24, Blk b6 [.int .i64 (a0.f2.length : Int)] 3]) [1, 0] 2 rfl rfl rfl⟩)
    ·
     refine TC.skip ?_
     refine TQ.inB ?_
     refine TQ.then_ ?_
     refine TC.seq ?_
     refine TC.region ?_
     refine TL.cons (TO.val rfl rfl rfl (Val.assign rfl) ?_)
     refine TL.nil ?_
     refine TQ.then_ ?_
     refine TC.ret ?_
     obtain rfl := Option.some.inj h
     exact TQ.fin (.inl rfl) rfl Tryd.results41 (.tmp rfl .nil) rfl (FRel.mk (Ls := []) [] 2 (Gd.le.refl _) rfl rfl rfl ⟨rfl, rfl, rfl⟩)
end Go.Proofs.YtdklnjmdaecboaaDoor.Sy
set_option linter.unusedVariables false
set_option linter.unusedSimpArgs false
set_option maxRecDepth 100000
set_option maxHeartbeats 4000000
namespace Go.Proofs.YtdklnjmdaecboaaDoor.Sy
open Go Go.RowKit Go.Proofs.YtdklnjmdaecboaaDoorW.PrintWords 
def types_measure.post (G : Gd) (r : (Int × Bool)) (v : Value) (G' : Gd) (Lr : List Ch) : Prop := G = G' ∧ v = .tuple #[.int .i64 r.1, .bool r.2] ∧ Lr = []
def types_measure.l0 (rec31 : (S24 → Int → Option (Int × Bool))) (a0 : S24) (a1 : Int) : Nat → Int → Int → Option (Sum (Int × Bool) (Int))
 | 0, _, _ => none
 | n135 + 1, x93, x94 => (if x94 < (a0.f2.length : Int) then (at? a0.f2 x94).bind fun y216 => (rec31 y216 (IntKind.i64.wrap (a1 - 1))).bind fun (y230 : (Int × Bool)) => (if (!y230.2) = true then some (.inl (0, false)) else types_measure.l0 rec31 a0 a1 n135 (if 1048577 < (IntKind.i64.wrap (x93 + y230.1)) then 1048577 else IntKind.i64.wrap (x93 + y230.1)) (IntKind.i64.wrap (x94 + 1))) else some (.inr x93))
def types_measure.g (rec31 : (S24 → Int → Option (Int × Bool))) (a0 : S24) (a1 : Int) : Option (Int × Bool) := jn (γ := (Int × Bool)) (fun (x11 : Bool) => (if x11 = true then some (0, false) else (types_measure.l0 rec31 a0 a1 (a0.f2.length + 1) 0 0).bind fun | .inl q_ => some q_ | .inr x133 => (jn (γ := (Int × Bool)) (fun (x186 : Bool) => jn (γ := (Int × Bool)) (fun (x190 : Int) => some (x190, decide (x190 < 1048577))) (fun (j191 : (Int → Option (Int × Bool))) => (if x186 = true then j191 1 else (if a0.f0 = 3 then j191 (if 1048577 < (IntKind.i64.wrap (x133 * a0.f1)) then 1048577 else IntKind.i64.wrap (x133 * a0.f1)) else j191 x133)))) (fun (j187 : (Bool → Option (Int × Bool))) => (if a0.f0 = 1 then j187 (decide (a0.f0 = 1)) else j187 (decide (a0.f0 = 2))))))) (fun (j12 : (Bool → Option (Int × Bool))) => (if a1 < 1 then j12 true else (types_kids.f a0).bind fun (y237 : Bool) => j12 (!y237)))
theorem types_measure.step (rec31 : (S24 → Int → Option (Int × Bool))) (ih31 : ∀ {G : Gd} {r : (Int × Bool)} {a0 : S24} {a1 : Int} {A1 : Option Addr} {c2 : Nat} (hr3 : Rd G k24 A1 a0.f2) (hl4 : a0.f2.length ≤ c2), rec31 a0 a1 = some r → Fn Tryd.prog 31 G [] [.agg #[.int .i64 a0.f0, .int .i64 a0.f1, .slice A1 a0.f2.length c2], .int .i64 a1] (types_measure.post G r)) {G : Gd} {r : (Int × Bool)} {a0 : S24} {a1 : Int} {A1 : Option Addr} {c2 : Nat} (hr3 : Rd G k24 A1 a0.f2) (hl4 : a0.f2.length ≤ c2) (h : types_measure.g rec31 a0 a1 = some r) : Fn Tryd.prog 31 G [] [.agg #[.int .i64 a0.f0, .int .i64 a0.f1, .slice A1 a0.f2.length c2], .int .i64 a1] (types_measure.post G r) := by
 refine Fn.intro (e := [(0, .agg #[.int .i64 a0.f0, .int .i64 a0.f1, .slice A1 a0.f2.length c2]), (1, .int .i64 a1)]) 54 Tryd.func31 rfl Tryd.ntmps31 rfl rfl (Nat.le_of_ble_eq_true rfl) (fun L => ?_)
 unfold types_measure.g at h
 refine TC.seq ?_
 refine TC.region ?_
 refine TL.cons (TL.box (cs := [.int .i64 a0.f0, .int .i64 a0.f1, .slice A1 a0.f2.length c2]) rfl rfl rfl rfl (fun b5 => ?_))
 refine TL.cons (TO.val rfl rfl rfl (Val.assign rfl) ?_)
 refine TL.cons (TO.val rfl rfl rfl (Val.assign rfl) ?_)
 refine TL.nil ?_
 refine TQ.then_ ?_
 refine TC.seq ?_
 refine TC.seq ?_
 obtain ⟨j12, hj12, h⟩ := jn_no h
 refine TC.tail (fun a W => ∃ (x11 : Bool), j12 x11 = some r ∧ Fr 54 a [(1, .int .i64 a1), (2, .pointer (some ⟨b5, 0, none⟩)), (17, .bool x11)] ∧ Own G (Blk b5 [.int .i64 a0.f0, .int .i64 a0.f1, .slice A1 a0.f2.length c2] 24 :: L) W) ?_ ?_
 ·
  rintro a W ⟨x11, h, hF, hO⟩
  rw [hj12] at h
  refine TQ.use ?_ hF hO
  clear hF hO
  refine TQ.then_ ?_
  refine TC.cond_b rfl h (fun hc14 h => ?_) (fun hc14 h => ?_)
  ·
   refine TC.seq ?_
   refine TC.region ?_
   refine TL.cons (TO.val rfl rfl rfl (Val.assign rfl) ?_)
   refine TL.cons (TO.val rfl rfl rfl (Val.assign rfl) ?_)
   refine TL.nil ?_
   refine TQ.then_ ?_
   refine TC.ret ?_
   refine TQ.thenR ?_
   obtain rfl := Option.some.inj h
   exact TQ.fin (.inl rfl) rfl Tryd.results31 (.tmp rfl (.tmp rfl .nil)) rfl (FRel.mk (Ls := []) [] 1 (Gd.le.refl _) rfl rfl rfl ⟨rfl, rfl, rfl⟩)
  ·
   refine TC.skip ?_
   refine TQ.then_ ?_
   refine TC.seq ?_
   refine TC.region ?_
   refine TL.cons (TO.val rfl rfl rfl (Val.assign rfl) ?_)
   refine TL.nil ?_
   refine TQ.then_ ?_
   refine TC.seq ?_
   refine TC.seq ?_
   refine TC.region ?_
   refine TL.cons (TO.val rfl rfl rfl (Val.fieldAddrB Tryd.underlying24 rfl fsz22 rfl rfl rfl) ?_)
   refine TL.cons (TO.val rfl rfl rfl (Val.loadB 0 agg22 rfl rfl rfl) ?_)
   refine TL.cons (TO.val rfl rfl rfl (Val.len Tryd.underlying22 rfl) ?_)
   refine TL.cons (TO.val rfl rfl rfl (Val.move rfl) ?_)
   refine TL.nil ?_
   refine TQ.then_ ?_
   obtain ⟨o134, ho134, ko134⟩ := bind_no h
   clear h
   refine TC.tail (fun a W => ∃ (x133 : Int), (.inr x133) = o134 ∧ Fr 54 a [(2, .pointer (some ⟨b5, 0, none⟩)), (6, .int .i64 x133)] ∧ Own G (Blk b5 [.int .i64 a0.f0, .int .i64 a0.f1, .slice A1 a0.f2.length c2] 24 :: L) W) ?_ ?_
   ·
    rintro a W ⟨x133, rfl, hF, hO⟩
    have h := ko134
    clear ko134 ho134
    refine TQ.use ?_ hF hO
    clear hF hO
    refine TQ.then_ ?_
    refine TC.seq ?_
    refine TC.seq ?_
    refine TC.region ?_
    refine TL.cons (TO.val rfl rfl rfl (Val.fieldAddrB Tryd.underlying24 rfl fsz3 rfl rfl rfl) ?_)
    refine TL.cons (TO.val rfl rfl rfl (Val.loadB 0 agg3 rfl rfl rfl) ?_)
    refine TL.nil ?_
    refine TQ.then_ ?_
    refine TC.block ?_
    refine TC.seq ?_
    refine TC.seq ?_
    refine TC.region ?_
    refine TL.cons (TO.val rfl rfl rfl (Val.cmp rfl rfl run_eql) ?_)
    refine TL.cons (TO.val rfl rfl rfl (Val.assign rfl) ?_)
    refine TL.nil ?_
    refine TQ.then_ ?_
    obtain ⟨j187, hj187, h⟩ := jn_no h
    refine TC.tail (fun a W => ∃ (x186 : Bool), j187 x186 = some r ∧ Fr 54 a [(2, .pointer (some ⟨b5, 0, none⟩)), (6, .int .i64 x133), (40, .int .i64 a0.f0), (41, .bool x186)] ∧ Own G (Blk b5 [.int .i64 a0.f0, .int .i64 a0.f1, .slice A1 a0.f2.length c2] 24 :: L) W) ?_ ?_
    ·
     rintro a W ⟨x186, h, hF, hO⟩
     rw [hj187] at h
     refine TQ.use ?_ hF hO
     clear hF hO
     refine TQ.then_ ?_
     obtain ⟨j191, hj191, h⟩ := jn_no h
     refine TC.tail (fun a W => ∃ (x190 : Int), j191 x190 = some r ∧ Fr 54 a [(6, .int .i64 x190)] ∧ Own G (L) W) ?_ ?_
     ·
      rintro a W ⟨x190, h, hF, hO⟩
      rw [hj191] at h
      refine TQ.use ?_ hF hO
      clear hF hO
      refine TQ.inB ?_
      refine TQ.then_ ?_
      refine TC.seq ?_
      refine TC.region ?_
      refine TL.cons (TO.val rfl rfl rfl (Val.move rfl) ?_)
      refine TL.cons (TO.val rfl rfl rfl (Val.move rfl) ?_)
      refine TL.cons (TO.val rfl rfl rfl (Val.cmp rfl rfl run_lss) ?_)
      refine TL.cons (TO.val rfl rfl rfl (Val.assign rfl) ?_)
      refine TL.cons (TO.val rfl rfl rfl (Val.assign rfl) ?_)
      refine TL.nil ?_
      refine TQ.then_ ?_
      refine TC.ret ?_
      obtain rfl := Option.some.inj h
      exact TQ.fin (.inl rfl) rfl Tryd.results31 (.tmp rfl (.tmp rfl .nil)) rfl (FRel.mk (Ls := []) [] 0 (Gd.le.refl _) rfl rfl rfl ⟨rfl, rfl, rfl⟩)
     ·
      refine TC.cond_b rfl h (fun hc192 h => ?_) (fun hc192 h => ?_)
      ·
       refine TC.region ?_
       refine TL.cons (TO.val rfl rfl rfl (Val.assign rfl) ?_)
       refine TL.nil ?_
       exact fun a W hF hO => ⟨1, h, hF.sub ⟨rfl, trivial⟩, hO.selT (Ls := []) [] 1 rfl rfl rfl⟩
      ·
       refine TC.seq ?_
       refine TC.region ?_
       refine TL.cons (TO.val rfl rfl rfl (Val.cmp rfl rfl run_eql) ?_)
       refine TL.cons (TO.val rfl rfl rfl (Val.assign rfl) ?_)
       refine TL.nil ?_
       refine TQ.then_ ?_
       refine TC.cond_p rfl h (fun hc194 h => ?_) (fun hc194 h => ?_)
       ·
        refine TC.region ?_
        refine TL.cons (TO.val rfl rfl rfl (Val.move rfl) ?_)
        refine TL.cons (TO.val rfl rfl rfl (Val.fieldAddrB Tryd.underlying24 rfl fsz3 rfl rfl rfl) ?_)
        refine TL.cons (TO.val rfl rfl rfl (Val.loadB 0 agg3 rfl rfl rfl) ?_)
        refine TL.cons (TO.val rfl rfl rfl (Val.cmp rfl rfl run_mul) ?_)
        refine TL.cons (TO.val rfl rfl rfl (Val.min2 rfl rfl) ?_)
        refine TL.cons (TO.val rfl rfl rfl (Val.assign rfl) ?_)
        refine TL.nil ?_
        exact fun a W hF hO => ⟨(if 1048577 < (IntKind.i64.wrap (x133 * a0.f1)) then 1048577 else IntKind.i64.wrap (x133 * a0.f1)), h, hF.sub ⟨rfl, trivial⟩, hO.selT (Ls := []) [] 1 rfl rfl rfl⟩
       ·
        refine TC.skip ?_
        exact fun a W hF hO => ⟨x133, h, hF.sub ⟨rfl, trivial⟩, hO.selT (Ls := []) [] 1 rfl rfl rfl⟩
    ·
     refine TC.cond_p rfl h (fun hc195 h => ?_) (fun hc195 h => ?_)
     ·
      refine TC.skip ?_
      exact fun a W hF hO => ⟨decide (a0.f0 = 1), h, hF.sub ⟨rfl, rfl, rfl, rfl, trivial⟩, hO.selT (Ls := [Blk b5 [.int .i64 a0.f0, .int .i64 a0.f1, .slice A1 a0.f2.length c2] 24]) [0] 1 rfl rfl rfl⟩
     ·
      refine TC.region ?_
      refine TL.cons (TO.val rfl rfl rfl (Val.cmp rfl rfl run_eql) ?_)
      refine TL.cons (TO.val rfl rfl rfl (Val.assign rfl) ?_)
      refine TL.nil ?_
      exact fun a W hF hO => ⟨decide (a0.f0 = 2), h, hF.sub ⟨rfl, rfl, rfl, rfl, trivial⟩, hO.selT (Ls := [Blk b5 [.int .i64 a0.f0, .int .i64 a0.f1, .slice A1 a0.f2.length c2] 24]) [0] 1 rfl rfl rfl⟩
   ·
    refine TC.block ?_
    intro a W hF hO
    have hS : ∃ (x93 : Int) (x94 : Int), types_measure.l0 rec31 a0 a1 (a0.f2.length + 1) x93 x94 = some o134 ∧ Fr 54 a [(1, .int .i64 a1), (2, .pointer (some ⟨b5, 0, none⟩)), (6, .int .i64 x93), (19, .slice A1 a0.f2.length c2), (20, .int .i64 (a0.f2.length : Int)), (21, .int .i64 x94)] ∧ Own G (Blk b5 [.int .i64 a0.f0, .int .i64 a0.f1, .slice A1 a0.f2.length c2] 24 :: L) W := by
     exact ⟨0, 0, ho134, hF.sub ⟨rfl, rfl, rfl, rfl, rfl, rfl, trivial⟩, hO.selT (Ls := [Blk b5 [.int .i64 a0.f0, .int .i64 a0.f1, .slice A1 a0.f2.length c2] 24]) [0] 1 rfl rfl rfl⟩
    clear hF hO ho134
    refine TC.loop (fun n135 a W => ∃ (x93 : Int) (x94 : Int), types_measure.l0 rec31 a0 a1 n135 x93 x94 = some o134 ∧ Fr 54 a [(1, .int .i64 a1), (2, .pointer (some ⟨b5, 0, none⟩)), (6, .int .i64 x93), (19, .slice A1 a0.f2.length c2), (20, .int .i64 (a0.f2.length : Int)), (21, .int .i64 x94)] ∧ Own G (Blk b5 [.int .i64 a0.f0, .int .i64 a0.f1, .slice A1 a0.f2.length c2] 24 :: L) W) ?_ ?_ hS
    ·
     rintro a W ⟨x93, x94, h, hF, hO⟩
     exact none_no h
    ·
     clear hS
     rintro n135 a W ⟨x93, x94, h, hF, hO⟩
     rw [types_measure.l0] at h
     refine TC.use ?_ hF hO
     clear hF hO
     refine TC.seq ?_
     refine TC.region ?_
     refine TL.cons (TO.val rfl rfl rfl (Val.cmp rfl rfl run_lss) ?_)
     refine TL.nil ?_
     refine TQ.then_ ?_
     refine TC.seq ?_
     refine TC.cond_p rfl h (fun hc197 h => ?_) (fun hc197 h => ?_)
     ·
      refine TC.skip ?_
      refine TQ.then_ ?_
      refine TC.seq ?_
      refine TC.block ?_
      refine TC.seq ?_
      refine TC.region ?_
      obtain ⟨y216, hx217, h⟩ := bind_no h
      obtain ⟨ad218, cs224, hA219, hi220, hj221, hcl222, hK223⟩ := Rd.at hr3 hx217
      obtain ⟨A225, c226, rfl, hr227, hl228⟩ := k24_openR hK223
      refine TL.cons (TO.val rfl rfl rfl (Val.indexAddr Tryd.underlying22 fsz24 rfl hA219 rfl hi220 hj221) ?_)
      refine TL.cons (TO.val rfl rfl rfl (Val.loadsS (cs := [.int .i64 y216.f0, .int .i64 y216.f1, .slice A225 y216.f2.length c226]) agg24 fsz24 rfl rfl (Cl.sub (off := 0) (n := 3) hcl222 rfl)) ?_)
      refine TL.cons (TL.alloc (cs := [.int .i64 0, .int .i64 0, .slice none 0 0]) rfl rfl zr24 rfl (fun b229 => ?_))
      refine TL.cons (TL.store 0 (ds := [.int .i64 y216.f0, .int .i64 y216.f1, .slice A225 y216.f2.length c226]) (cs' := [.int .i64 y216.f0, .int .i64 y216.f1, .slice A225 y216.f2.length c226]) (L' := (Blk b229 [.int .i64 y216.f0, .int .i64 y216.f1, .slice A225 y216.f2.length c226] 24 :: Blk b5 [.int .i64 a0.f0, .int .i64 a0.f1, .slice A1 a0.f2.length c2] 24 :: L)) rfl fsz24 rfl rfl rfl rfl rfl (Nat.le_of_ble_eq_true rfl) rfl rfl ?_)
      refine TL.nil ?_
      refine TQ.then_ ?_
      refine TC.seq ?_
      refine TC.region ?_
      refine TL.cons (TO.val rfl rfl rfl (Val.loadsB 0 (cs := [.int .i64 y216.f0, .int .i64 y216.f1, .slice A225 y216.f2.length c226]) agg24 fsz24 rfl rfl rfl rfl) ?_)
      refine TL.cons (TO.val rfl rfl rfl (Val.move rfl) ?_)
      refine TL.cons (TO.val rfl rfl rfl (Val.cmp rfl rfl run_sub) ?_)
      obtain ⟨y230, hy231, h⟩ := bind_no h
      refine TL.cons (TL.callV (Lin := []) (args := [.agg #[.int .i64 y216.f0, .int .i64 y216.f1, .slice A225 y216.f2.length c226], .int .i64 (IntKind.i64.wrap (a1 - 1))]) rfl rfl rfl hbd31 rfl rfl (ih31 (a0 := y216) (a1 := IntKind.i64.wrap (a1 - 1)) hr227 hl228 hy231) rfl ?_)
      rintro _ _ _ _ ⟨rfl, rfl, rfl⟩
      refine TL.cons (TO.val rfl rfl rfl (Val.move rfl) ?_)
      refine TL.cons (TO.val rfl rfl rfl (Val.extract rfl rfl) ?_)
      refine TL.cons (TO.val rfl rfl rfl (Val.extract rfl rfl) ?_)
      refine TL.cons (TO.val rfl rfl rfl (Val.assign rfl) ?_)
      refine TL.cons (TO.val rfl rfl rfl (Val.assign rfl) ?_)
      refine TL.nil ?_
      refine TQ.then_ ?_
      refine TC.seq ?_
      refine TC.seq ?_
      refine TC.region ?_
      refine TL.cons (TO.val rfl rfl rfl (Val.move rfl) ?_)
      refine TL.cons (TO.val rfl rfl rfl (Val.not_ rfl) ?_)
      refine TL.nil ?_
      refine TQ.then_ ?_
      refine TC.cond_b rfl h (fun hc233 h => ?_) (fun hc233 h => ?_)
      ·
       refine TC.seq ?_
       refine TC.region ?_
       refine TL.cons (TO.val rfl rfl rfl (Val.assign rfl) ?_)
       refine TL.cons (TO.val rfl rfl rfl (Val.assign rfl) ?_)
       refine TL.nil ?_
       refine TQ.then_ ?_
       refine TC.ret ?_
       refine TQ.thenR ?_
       refine TQ.inBR ?_
       refine TQ.thenR ?_
       refine TQ.thenR ?_
       refine TQ.inBR ?_
       refine TQ.thenR ?_
       refine TQ.thenR ?_
       obtain rfl := Option.some.inj h
       have h := ko134
       obtain rfl := Option.some.inj h
       exact TQ.fin (.inl rfl) rfl Tryd.results31 (.tmp rfl (.tmp rfl .nil)) rfl (FRel.mk (Ls := []) [] 2 (Gd.le.refl _) rfl rfl rfl ⟨rfl, rfl, rfl⟩)
      ·
       refine TC.skip ?_
       refine TQ.then_ ?_
       refine TC.region ?_
       refine TL.cons (TO.val rfl rfl rfl (Val.move rfl) ?_)
       refine TL.cons (TO.val rfl rfl rfl (Val.move rfl) ?_)
       refine TL.cons (TO.val rfl rfl rfl (Val.cmp rfl rfl run_add) ?_)
       refine TL.cons (TO.val rfl rfl rfl (Val.min2 rfl rfl) ?_)
       refine TL.cons (TO.val rfl rfl rfl (Val.assign rfl) ?_)
       refine TL.nil ?_
       refine TQ.inB ?_
       refine TQ.then_ ?_
       refine TC.region ?_
       refine TL.cons (TO.val rfl rfl rfl (Val.cmp rfl rfl run_add) ?_)
       refine TL.cons (TO.val rfl rfl rfl (Val.move rfl) ?_)
       refine TL.nil ?_
       exact fun a W hF hO => ⟨(if 1048577 < (IntKind.i64.wrap (x93 + y230.1)) then 1048577 else IntKind.i64.wrap (x93 + y230.1)), IntKind.i64.wrap (x94 + 1), h, hF.sub ⟨rfl, rfl, rfl, rfl, rfl, rfl, trivial⟩, hO.selT (Ls := [Blk b5 [.int .i64 a0.f0, .int .i64 a0.f1, .slice A1 a0.f2.length c2] 24]) [1] 2 rfl rfl rfl⟩
     ·
      refine TC.exit ?_
      refine TQ.thenX ?_
      refine TQ.thenX ?_
      refine TQ.inBX ?_
      exact fun a W hF hO => ⟨x93, Option.some.inj h, hF.sub ⟨rfl, rfl, trivial⟩, hO.selT (Ls := [Blk b5 [.int .i64 a0.f0, .int .i64 a0.f1, .slice A1 a0.f2.length c2] 24]) [0] 1 rfl rfl rfl⟩
 ·
  refine TC.region ?_
  refine TL.cons (TO.val rfl rfl rfl (Val.move rfl) ?_)
  refine TL.cons (TO.val rfl rfl rfl (Val.cmp rfl rfl run_lss) ?_)
  refine TL.cons (TO.val rfl rfl rfl (Val.move rfl) ?_)
  refine TK.split (p := a1 < 1) h (fun hg234 h => ?_) (fun hg234 h => ?_)
  ·
   have hk235 : decide (a1 < 1) = true := decide_eq_true hg234
   refine TL.cons (TL.not (Wt.no rfl rfl rfl hk235) rfl ?_)
   refine TL.cons (TL.not (Wt.no rfl rfl rfl hk235) rfl ?_)
   refine TL.cons (TL.not (Wt.no rfl rfl rfl hk235) rfl ?_)
   refine TL.cons (TO.val rfl rfl rfl (Val.pickY rfl hk235 rfl) ?_)
   refine TL.nil ?_
   exact fun a W hF hO => ⟨true, h, hF.sub ⟨rfl, rfl, rfl, trivial⟩, hO.selT (Ls := [Blk b5 [.int .i64 a0.f0, .int .i64 a0.f1, .slice A1 a0.f2.length c2] 24]) [0] 1 rfl rfl rfl⟩
  ·
   have hk236 : decide (a1 < 1) = false := decide_eq_false hg234
   refine TL.cons (TO.val (Wt.yes rfl rfl rfl hk236) rfl rfl (Val.loadsB 0 (cs := [.int .i64 a0.f0, .int .i64 a0.f1, .slice A1 a0.f2.length c2]) agg24 fsz24 rfl rfl rfl rfl) ?_)
   obtain ⟨y237, hy238, h⟩ := bind_no h
   refine TL.cons (TL.callV (Lin := []) (args := [.agg #[.int .i64 a0.f0, .int .i64 a0.f1, .slice A1 a0.f2.length c2]]) (Wt.yes rfl rfl rfl hk236) rfl rfl hbd41 rfl rfl (types_kids.calls (a0 := a0) hr3 hl4 hy238) rfl ?_)
   rintro _ _ _ _ ⟨rfl, rfl, rfl⟩
   refine TL.cons (TO.val (Wt.yes rfl rfl rfl hk236) rfl rfl (Val.not_ rfl) ?_)
   refine TL.cons (TO.val rfl rfl rfl (Val.pickN rfl hk236 rfl) ?_)
   refine TL.nil ?_
   exact fun a W hF hO => ⟨(!y237), h, hF.sub ⟨rfl, rfl, rfl, trivial⟩, hO.selT (Ls := [Blk b5 [.int .i64 a0.f0, .int .i64 a0.f1, .slice A1 a0.f2.length c2] 24]) [0] 1 rfl rfl rfl⟩
def types_measure.fix : Nat → (S24 → Int → Option (Int × Bool))
 | 0 => (fun _ _ => none)
 | n + 1 => types_measure.g (types_measure.fix n)
theorem types_measure.fixc : ∀ k, (∀ {G : Gd} {r : (Int × Bool)} {a0 : S24} {a1 : Int} {A1 : Option Addr} {c2 : Nat} (hr3 : Rd G k24 A1 a0.f2) (hl4 : a0.f2.length ≤ c2), (types_measure.fix k) a0 a1 = some r → Fn Tryd.prog 31 G [] [.agg #[.int .i64 a0.f0, .int .i64 a0.f1, .slice A1 a0.f2.length c2], .int .i64 a1] (types_measure.post G r)) ∧ True
 | 0 => ⟨(by intros; contradiction), trivial⟩
 | k + 1 => by
  have ih := types_measure.fixc k
  exact ⟨(by
   intro G r a0 a1 A1 c2 hr3 hl4 h
   exact types_measure.step _ ih.1 hr3 hl4 h), trivial⟩
def types_measure.f (a0 : S24) (a1 : Int) : Option (Int × Bool) := (types_measure.fix 1000) a0 a1
theorem types_measure.calls {G : Gd} {r : (Int × Bool)} {a0 : S24} {a1 : Int} {A1 : Option Addr} {c2 : Nat} (hr3 : Rd G k24 A1 a0.f2) (hl4 : a0.f2.length ≤ c2) (h : types_measure.f a0 a1 = some r) : Fn Tryd.prog 31 G [] [.agg #[.int .i64 a0.f0, .int .i64 a0.f1, .slice A1 a0.f2.length c2], .int .i64 a1] (types_measure.post G r) := (types_measure.fixc 1000).1 hr3 hl4 h
end Go.Proofs.YtdklnjmdaecboaaDoor.Sy
set_option linter.unusedVariables false
set_option linter.unusedSimpArgs false
set_option maxRecDepth 100000
set_option maxHeartbeats 4000000
namespace Go.Proofs.YtdklnjmdaecboaaDoor.Sy
open Go Go.RowKit Go.Proofs.YtdklnjmdaecboaaDoorW.PrintWords 
def types_Right.f (a0 : S24) : Option Bool := (types_measure.f a0 100).bind fun (y6 : (Int × Bool)) => some y6.2
def types_Right.post (G : Gd) (r : Bool) (v : Value) (G' : Gd) (Lr : List Ch) : Prop := G = G' ∧ v = .bool r ∧ Lr = []
theorem types_Right.calls {G : Gd} {r : Bool} {a0 : S24} {A1 : Option Addr} {c2 : Nat} (hr3 : Rd G k24 A1 a0.f2) (hl4 : a0.f2.length ≤ c2) (h : types_Right.f a0 = some r) : Fn Tryd.prog 15 G [] [.agg #[.int .i64 a0.f0, .int .i64 a0.f1, .slice A1 a0.f2.length c2]] (types_Right.post G r) := by
 refine Fn.intro (e := [(0, .agg #[.int .i64 a0.f0, .int .i64 a0.f1, .slice A1 a0.f2.length c2])]) 11 Tryd.func15 rfl Tryd.ntmps15 rfl rfl (Nat.le_of_ble_eq_true rfl) (fun L => ?_)
 unfold types_Right.f at h
 refine TC.seq ?_
 refine TC.region ?_
 refine TL.cons (TL.box (cs := [.int .i64 a0.f0, .int .i64 a0.f1, .slice A1 a0.f2.length c2]) rfl rfl rfl rfl (fun b5 => ?_))
 refine TL.cons (TO.val rfl rfl rfl (Val.assign rfl) ?_)
 refine TL.nil ?_
 refine TQ.then_ ?_
 refine TC.seq ?_
 refine TC.region ?_
 refine TL.cons (TO.val rfl rfl rfl (Val.loadsB 0 (cs := [.int .i64 a0.f0, .int .i64 a0.f1, .slice A1 a0.f2.length c2]) agg24 fsz24 rfl rfl rfl rfl) ?_)
 obtain ⟨y6, hy7, h⟩ := bind_no h
 refine TL.cons (TL.callV (Lin := []) (args := [.agg #[.int .i64 a0.f0, .int .i64 a0.f1, .slice A1 a0.f2.length c2], .int .i64 100]) rfl rfl rfl hbd31 rfl rfl (types_measure.calls (a0 := a0) (a1 := 100) hr3 hl4 hy7) rfl ?_)
 rintro _ _ _ _ ⟨rfl, rfl, rfl⟩
 refine TL.cons (TO.val rfl rfl rfl (Val.move rfl) ?_)
 refine TL.cons (TO.val rfl rfl rfl (Val.extract rfl rfl) ?_)
 refine TL.cons (TO.val rfl rfl rfl (Val.extract rfl rfl) ?_)
 refine TL.cons (TO.val rfl rfl rfl (Val.assign rfl) ?_)
 refine TL.cons (TO.val rfl rfl rfl (Val.assign rfl) ?_)
 refine TL.nil ?_
 refine TQ.then_ ?_
 refine TC.seq ?_
 refine TC.region ?_
 refine TL.cons (TO.val rfl rfl rfl (Val.move rfl) ?_)
 refine TL.cons (TO.val rfl rfl rfl (Val.assign rfl) ?_)
 refine TL.nil ?_
 refine TQ.then_ ?_
 refine TC.ret ?_
 obtain rfl := Option.some.inj h
 exact TQ.fin (.inl rfl) rfl Tryd.results15 (.tmp rfl .nil) rfl (FRel.mk (Ls := []) [] 1 (Gd.le.refl _) rfl rfl rfl ⟨rfl, rfl, rfl⟩)
end Go.Proofs.YtdklnjmdaecboaaDoor.Sy
set_option linter.unusedVariables false
set_option linter.unusedSimpArgs false
set_option maxRecDepth 100000
set_option maxHeartbeats 4000000
namespace Go.Proofs.YtdklnjmdaecboaaDoor.Sy
open Go Go.RowKit Go.Proofs.YtdklnjmdaecboaaDoorW.PrintWords 
def swageref11_cells.post (G : Gd) (r : Int) (v : Value) (G' : Gd) (Lr : List Ch) : Prop := G = G' ∧ v = .int .i64 r ∧ Lr = []
def swageref11_cells.l0 (rec30 : (S24 → Option Int)) (a0 : S24) : Nat → Int → Int → Option (Int)
 | 0, _, _ => none
 | n246 + 1, x210, x211 => (if x211 < (a0.f2.length : Int) then (at? a0.f2 x211).bind fun y296 => (rec30 y296).bind fun (y309 : Int) => swageref11_cells.l0 rec30 a0 n246 (IntKind.i64.wrap (x210 + y309)) (IntKind.i64.wrap (x211 + 1)) else some x210)
def swageref11_cells.g (rec30 : (S24 → Option Int)) (a0 : S24) : Option Int := jn (γ := Int) (fun (x37 : Int) => jn (γ := Int) (fun (x141 : Int) => some (if 1048577 < x141 then 1048577 else x141)) (fun (j142 : (Int → Option Int)) => (if a0.f0 = 4 then (swageref11_cells.l0 rec30 a0 (a0.f2.length + 1) 0 0).bind fun (x244 : Int) => j142 x244 else j142 x37))) (fun (j38 : (Int → Option Int)) => (if a0.f0 = 3 then (at? a0.f2 0).bind fun y327 => (rec30 y327).bind fun (y340 : Int) => j38 (IntKind.i64.wrap (y340 * a0.f1)) else j38 1))
theorem swageref11_cells.step (rec30 : (S24 → Option Int)) (ih30 : ∀ {G : Gd} {r : Int} {a0 : S24} {A1 : Option Addr} {c2 : Nat} (hr3 : Rd G k24 A1 a0.f2) (hl4 : a0.f2.length ≤ c2), rec30 a0 = some r → Fn Tryd.prog 30 G [] [.agg #[.int .i64 a0.f0, .int .i64 a0.f1, .slice A1 a0.f2.length c2]] (swageref11_cells.post G r)) {G : Gd} {r : Int} {a0 : S24} {A1 : Option Addr} {c2 : Nat} (hr3 : Rd G k24 A1 a0.f2) (hl4 : a0.f2.length ≤ c2) (h : swageref11_cells.g rec30 a0 = some r) : Fn Tryd.prog 30 G [] [.agg #[.int .i64 a0.f0, .int .i64 a0.f1, .slice A1 a0.f2.length c2]] (swageref11_cells.post G r) := by
 refine Fn.intro (e := [(0, .agg #[.int .i64 a0.f0, .int .i64 a0.f1, .slice A1 a0.f2.length c2])]) 36 Tryd.func30 rfl Tryd.ntmps30 rfl rfl (Nat.le_of_ble_eq_true rfl) (fun L => ?_)
 unfold swageref11_cells.g at h
 refine TC.seq ?_
 refine TC.region ?_
 refine TL.cons (TL.box (cs := [.int .i64 a0.f0, .int .i64 a0.f1, .slice A1 a0.f2.length c2]) rfl rfl rfl rfl (fun b5 => ?_))
 refine TL.cons (TO.val rfl rfl rfl (Val.assign rfl) ?_)
 refine TL.nil ?_
 refine TQ.then_ ?_
 refine TC.seq ?_
 refine TC.region ?_
 refine TL.cons (TO.val rfl rfl rfl (Val.assign rfl) ?_)
 refine TL.nil ?_
 refine TQ.then_ ?_
 refine TC.seq ?_
 refine TC.seq ?_
 refine TC.region ?_
 refine TL.cons (TO.val rfl rfl rfl (Val.fieldAddrB Tryd.underlying24 rfl fsz3 rfl rfl rfl) ?_)
 refine TL.cons (TO.val rfl rfl rfl (Val.loadB 0 agg3 rfl rfl rfl) ?_)
 refine TL.cons (TO.val rfl rfl rfl (Val.cmp rfl rfl run_eql) ?_)
 refine TL.nil ?_
 refine TQ.then_ ?_
 obtain ⟨j38, hj38, h⟩ := jn_no h
 refine TC.tail (fun a W => ∃ (x37 : Int), j38 x37 = some r ∧ Fr 36 a [(1, .pointer (some ⟨b5, 0, none⟩)), (3, .int .i64 x37)] ∧ Own G (Blk b5 [.int .i64 a0.f0, .int .i64 a0.f1, .slice A1 a0.f2.length c2] 24 :: L) W) ?_ ?_
 ·
  rintro a W ⟨x37, h, hF, hO⟩
  rw [hj38] at h
  refine TQ.use ?_ hF hO
  clear hF hO
  refine TQ.then_ ?_
  refine TC.seq ?_
  refine TC.seq ?_
  refine TC.region ?_
  refine TL.cons (TO.val rfl rfl rfl (Val.fieldAddrB Tryd.underlying24 rfl fsz3 rfl rfl rfl) ?_)
  refine TL.cons (TO.val rfl rfl rfl (Val.loadB 0 agg3 rfl rfl rfl) ?_)
  refine TL.cons (TO.val rfl rfl rfl (Val.cmp rfl rfl run_eql) ?_)
  refine TL.nil ?_
  refine TQ.then_ ?_
  obtain ⟨j142, hj142, h⟩ := jn_no h
  refine TC.tail (fun a W => ∃ (x141 : Int), j142 x141 = some r ∧ Fr 36 a [(3, .int .i64 x141)] ∧ Own G (L) W) ?_ ?_
  ·
   rintro a W ⟨x141, h, hF, hO⟩
   rw [hj142] at h
   refine TQ.use ?_ hF hO
   clear hF hO
   refine TQ.then_ ?_
   refine TC.seq ?_
   refine TC.region ?_
   refine TL.cons (TO.val rfl rfl rfl (Val.move rfl) ?_)
   refine TL.cons (TO.val rfl rfl rfl (Val.min2 rfl rfl) ?_)
   refine TL.cons (TO.val rfl rfl rfl (Val.assign rfl) ?_)
   refine TL.nil ?_
   refine TQ.then_ ?_
   refine TC.ret ?_
   obtain rfl := Option.some.inj h
   exact TQ.fin (.inl rfl) rfl Tryd.results30 (.tmp rfl .nil) rfl (FRel.mk (Ls := []) [] 0 (Gd.le.refl _) rfl rfl rfl ⟨rfl, rfl, rfl⟩)
  ·
   refine TC.cond_p rfl h (fun hc143 h => ?_) (fun hc143 h => ?_)
   ·
    refine TC.seq ?_
    refine TC.region ?_
    refine TL.cons (TO.val rfl rfl rfl (Val.assign rfl) ?_)
    refine TL.nil ?_
    refine TQ.then_ ?_
    refine TC.seq ?_
    refine TC.region ?_
    refine TL.cons (TO.val rfl rfl rfl (Val.assign rfl) ?_)
    refine TL.nil ?_
    refine TQ.then_ ?_
    obtain ⟨o245, ho245, ko245⟩ := bind_no h
    clear h
    refine TC.tail (fun a W => ∃ (x244 : Int), x244 = o245 ∧ Fr 36 a [(3, .int .i64 x244)] ∧ Own G (L) W) ?_ ?_
    ·
     rintro a W ⟨x244, rfl, hF, hO⟩
     have h := ko245
     clear ko245 ho245
     refine TQ.use ?_ hF hO
     clear hF hO
     exact fun a W hF hO => ⟨x244, h, hF.sub ⟨rfl, trivial⟩, hO.selT (Ls := []) [] 0 rfl rfl rfl⟩
    ·
     refine TC.block ?_
     intro a W hF hO
     have hS : ∃ (x210 : Int) (x211 : Int), swageref11_cells.l0 rec30 a0 (a0.f2.length + 1) x210 x211 = some o245 ∧ Fr 36 a [(1, .pointer (some ⟨b5, 0, none⟩)), (3, .int .i64 x210), (4, .int .i64 x211)] ∧ Own G (Blk b5 [.int .i64 a0.f0, .int .i64 a0.f1, .slice A1 a0.f2.length c2] 24 :: L) W := by
      exact ⟨0, 0, ho245, hF.sub ⟨rfl, rfl, rfl, trivial⟩, hO.selT (Ls := [Blk b5 [.int .i64 a0.f0, .int .i64 a0.f1, .slice A1 a0.f2.length c2] 24]) [0] 1 rfl rfl rfl⟩
     clear hF hO ho245 ko245
     refine TC.loop (fun n246 a W => ∃ (x210 : Int) (x211 : Int), swageref11_cells.l0 rec30 a0 n246 x210 x211 = some o245 ∧ Fr 36 a [(1, .pointer (some ⟨b5, 0, none⟩)), (3, .int .i64 x210), (4, .int .i64 x211)] ∧ Own G (Blk b5 [.int .i64 a0.f0, .int .i64 a0.f1, .slice A1 a0.f2.length c2] 24 :: L) W) ?_ ?_ hS
     ·
      rintro a W ⟨x210, x211, h, hF, hO⟩
      exact none_no h
     ·
      clear hS
      rintro n246 a W ⟨x210, x211, h, hF, hO⟩
      rw [swageref11_cells.l0] at h
      refine TC.use ?_ hF hO
      clear hF hO
      refine TC.seq ?_
      refine TC.seq ?_
      refine TC.region ?_
      refine TL.cons (TO.val rfl rfl rfl (Val.move rfl) ?_)
      refine TL.cons (TO.val rfl rfl rfl (Val.fieldAddrB Tryd.underlying24 rfl fsz22 rfl rfl rfl) ?_)
      refine TL.cons (TO.val rfl rfl rfl (Val.loadB 0 agg22 rfl rfl rfl) ?_)
      refine TL.cons (TO.val rfl rfl rfl (Val.len Tryd.underlying22 rfl) ?_)
      refine TL.cons (TO.val rfl rfl rfl (Val.cmp rfl rfl run_lss) ?_)
      refine TL.nil ?_
      refine TQ.then_ ?_
      refine TC.cond_p rfl h (fun hc280 h => ?_) (fun hc280 h => ?_)
      ·
       refine TC.skip ?_
       refine TQ.then_ ?_
       refine TC.seq ?_
       refine TC.block ?_
       refine TC.region ?_
       refine TL.cons (TO.val rfl rfl rfl (Val.move rfl) ?_)
       refine TL.cons (TO.val rfl rfl rfl (Val.fieldAddrB Tryd.underlying24 rfl fsz22 rfl rfl rfl) ?_)
       refine TL.cons (TO.val rfl rfl rfl (Val.loadB 0 agg22 rfl rfl rfl) ?_)
       refine TL.cons (TO.val rfl rfl rfl (Val.move rfl) ?_)
       obtain ⟨y296, hx297, h⟩ := bind_no h
       obtain ⟨ad298, cs304, hA299, hi300, hj301, hcl302, hK303⟩ := Rd.at hr3 hx297
       obtain ⟨A305, c306, rfl, hr307, hl308⟩ := k24_openR hK303
       refine TL.cons (TO.val rfl rfl rfl (Val.indexAddr Tryd.underlying22 fsz24 rfl hA299 rfl hi300 hj301) ?_)
       refine TL.cons (TO.val rfl rfl rfl (Val.loadsS (cs := [.int .i64 y296.f0, .int .i64 y296.f1, .slice A305 y296.f2.length c306]) agg24 fsz24 rfl rfl (Cl.sub (off := 0) (n := 3) hcl302 rfl)) ?_)
       obtain ⟨y309, hy310, h⟩ := bind_no h
       refine TL.cons (TL.callV (Lin := []) (args := [.agg #[.int .i64 y296.f0, .int .i64 y296.f1, .slice A305 y296.f2.length c306]]) rfl rfl rfl hbd30 rfl rfl (ih30 (a0 := y296) hr307 hl308 hy310) rfl ?_)
       rintro _ _ _ _ ⟨rfl, rfl, rfl⟩
       refine TL.cons (TO.val rfl rfl rfl (Val.cmp rfl rfl run_add) ?_)
       refine TL.cons (TO.val rfl rfl rfl (Val.assign rfl) ?_)
       refine TL.nil ?_
       refine TQ.inB ?_
       refine TQ.then_ ?_
       refine TC.region ?_
       refine TL.cons (TO.val rfl rfl rfl (Val.move rfl) ?_)
       refine TL.cons (TO.val rfl rfl rfl (Val.cmp rfl rfl run_add) ?_)
       refine TL.cons (TO.val rfl rfl rfl (Val.assign rfl) ?_)
       refine TL.nil ?_
       exact fun a W hF hO => ⟨IntKind.i64.wrap (x210 + y309), IntKind.i64.wrap (x211 + 1), h, hF.sub ⟨rfl, rfl, rfl, trivial⟩, hO.selT (Ls := [Blk b5 [.int .i64 a0.f0, .int .i64 a0.f1, .slice A1 a0.f2.length c2] 24]) [0] 1 rfl rfl rfl⟩
      ·
       refine TC.exit ?_
       refine TQ.thenX ?_
       refine TQ.thenX ?_
       refine TQ.inBX ?_
       exact fun a W hF hO => ⟨x210, Option.some.inj h, hF.sub ⟨rfl, trivial⟩, hO.selT (Ls := []) [] 1 rfl rfl rfl⟩
   ·
    refine TC.skip ?_
    exact fun a W hF hO => ⟨x37, h, hF.sub ⟨rfl, trivial⟩, hO.selT (Ls := []) [] 1 rfl rfl rfl⟩
 ·
  refine TC.cond_p rfl h (fun hc311 h => ?_) (fun hc311 h => ?_)
  ·
   refine TC.regionAny [] [0, 1, 2, 3, 5, 6, 7, 8] mixed (by kernel_rfl) ?_
   refine TA.take 0 rfl (by kernel_rfl) rfl (PQ.then_ (PQ.then_ PQ.body)) rfl (Val.fieldAddrB Tryd.underlying24 rfl fsz22 rfl rfl rfl) (fun W hO => hO) ?_
   refine TA.take 1 rfl (by kernel_rfl) rfl (PQ.then_ (PQ.then_ PQ.body)) rfl (Val.loadB 0 agg22 rfl rfl rfl) (fun W hO => hO) ?_
   obtain ⟨y327, hx328, h⟩ := bind_no h
   obtain ⟨ad329, cs335, hA330, hi331, hj332, hcl333, hK334⟩ := Rd.at hr3 hx328
   obtain ⟨A336, c337, rfl, hr338, hl339⟩ := k24_openR hK334
   refine TA.take 2 rfl (by kernel_rfl) rfl (PQ.then_ (PQ.then_ PQ.body)) rfl (Val.indexAddr Tryd.underlying22 fsz24 rfl hA330 rfl hi331 hj332) (fun W hO => hO) ?_
   refine TA.take 3 rfl (by kernel_rfl) rfl (PQ.then_ (PQ.then_ PQ.body)) rfl (Val.loadsS (cs := [.int .i64 y327.f0, .int .i64 y327.f1, .slice A336 y327.f2.length c337]) agg24 fsz24 rfl rfl (Cl.sub (off := 0) (n := 3) hcl333 rfl)) (fun W hO => hO) ?_
   refine TA.take 5 rfl (by kernel_rfl) rfl (PQ.then_ (PQ.then_ PQ.body)) rfl (Val.fieldAddrB Tryd.underlying24 rfl fsz3 rfl rfl rfl) (fun W hO => hO) ?_
   refine TA.take 6 rfl (by kernel_rfl) rfl (PQ.then_ (PQ.then_ PQ.body)) rfl (Val.loadB 0 agg3 rfl rfl rfl) (fun W hO => hO) ?_
   obtain ⟨y340, hy341, h⟩ := bind_no h
   refine TA.eff 4 rfl (by kernel_rfl) rfl (TL.callV (Lin := []) (args := [.agg #[.int .i64 y327.f0, .int .i64 y327.f1, .slice A336 y327.f2.length c337]]) rfl rfl rfl hbd30 rfl rfl (ih30 (a0 := y327) hr338 hl339 hy341) rfl ?_)
   rintro _ _ _ _ ⟨rfl, rfl, rfl⟩
   refine TA.next (fun W hO => hO) ?_
   refine TA.take 7 rfl (by kernel_rfl) rfl (PQ.then_ (PQ.then_ PQ.body)) rfl (Val.cmp rfl rfl run_mul) (fun W hO => hO) ?_
   refine TA.take 8 rfl (by kernel_rfl) rfl (PQ.then_ (PQ.then_ PQ.body)) rfl (Val.assign rfl) (fun W hO => hO) ?_
   refine TA.done (by kernel_rfl) ?_
   exact fun a W hF hO => ⟨IntKind.i64.wrap (y340 * a0.f1), h, hF.sub ⟨rfl, rfl, trivial⟩, hO.selT (Ls := [Blk b5 [.int .i64 a0.f0, .int .i64 a0.f1, .slice A1 a0.f2.length c2] 24]) [0] 1 rfl rfl rfl⟩
  ·
   refine TC.skip ?_
   exact fun a W hF hO => ⟨1, h, hF.sub ⟨rfl, rfl, trivial⟩, hO.selT (Ls := [Blk b5 [.int .i64 a0.f0, .int .i64 a0.f1, .slice A1 a0.f2.length c2] 24]) [0] 1 rfl rfl rfl⟩
def swageref11_cells.fix : Nat → (S24 → Option Int)
 | 0 => (fun _ => none)
 | n + 1 => swageref11_cells.g (swageref11_cells.fix n)
theorem swageref11_cells.fixc : ∀ k, (∀ {G : Gd} {r : Int} {a0 : S24} {A1 : Option Addr} {c2 : Nat} (hr3 : Rd G k24 A1 a0.f2) (hl4 : a0.f2.length ≤ c2), (swageref11_cells.fix k) a0 = some r → Fn Tryd.prog 30 G [] [.agg #[.int .i64 a0.f0, .int .i64 a0.f1, .slice A1 a0.f2.length c2]] (swageref11_cells.post G r)) ∧ True
 | 0 => ⟨(by intros; contradiction), trivial⟩
 | k + 1 => by
  have ih := swageref11_cells.fixc k
  exact ⟨(by
   intro G r a0 A1 c2 hr3 hl4 h
   exact swageref11_cells.step _ ih.1 hr3 hl4 h), trivial⟩
def swageref11_cells.f (a0 : S24) : Option Int := (swageref11_cells.fix 1000) a0
theorem swageref11_cells.calls {G : Gd} {r : Int} {a0 : S24} {A1 : Option Addr} {c2 : Nat} (hr3 : Rd G k24 A1 a0.f2) (hl4 : a0.f2.length ≤ c2) (h : swageref11_cells.f a0 = some r) : Fn Tryd.prog 30 G [] [.agg #[.int .i64 a0.f0, .int .i64 a0.f1, .slice A1 a0.f2.length c2]] (swageref11_cells.post G r) := (swageref11_cells.fixc 1000).1 hr3 hl4 h
end Go.Proofs.YtdklnjmdaecboaaDoor.Sy
set_option linter.unusedVariables false
set_option linter.unusedSimpArgs false
set_option maxRecDepth 100000
set_option maxHeartbeats 4000000
namespace Go.Proofs.YtdklnjmdaecboaaDoor.Sy
open Go Go.RowKit Go.Proofs.YtdklnjmdaecboaaDoorW.PrintWords 
def swageref11_shaped.post (G : Gd) (r : Bool) (v : Value) (G' : Gd) (Lr : List Ch) : Prop := G = G' ∧ v = .bool r ∧ Lr = []
def swageref11_shaped.l0 (rec32 : (S24 → Option Bool)) (a0 : S24) : Nat → Int → Option (Sum Bool (Unit))
 | 0, _ => none
 | n369 + 1, x331 => (if x331 < (a0.f2.length : Int) then (at? a0.f2 x331).bind fun y425 => (rec32 y425).bind fun (y438 : Bool) => (if (!y438) = true then some (.inl false) else swageref11_shaped.l0 rec32 a0 n369 (IntKind.i64.wrap (x331 + 1))) else some (.inr ()))
def swageref11_shaped.g (rec32 : (S24 → Option Bool)) (a0 : S24) : Option Bool := jn (γ := Bool) ((swageref11_shaped.l0 rec32 a0 (a0.f2.length + 1) 0).bind fun | .inl q_ => some q_ | .inr _ => (some true)) (fun (j257 : (Option Bool)) => (if a0.f0 = 1 then jn (γ := Bool) (fun (x446 : Bool) => (if x446 = true then some false else j257)) (fun (j447 : (Bool → Option Bool)) => (if (!decide ((a0.f2.length : Int) = 0)) = true then j447 true else j447 (!decide (a0.f1 = 0)))) else (if a0.f0 = 2 then jn (γ := Bool) (fun (x499 : Bool) => (if x499 = true then some false else j257)) (fun (j500 : (Bool → Option Bool)) => (if (!decide ((a0.f2.length : Int) = 1)) = true then j500 true else j500 (!decide (a0.f1 = 0)))) else (if a0.f0 = 3 then jn (γ := Bool) (fun (x545 : Bool) => (if x545 = true then some false else j257)) (fun (j546 : (Bool → Option Bool)) => (if (!decide ((a0.f2.length : Int) = 1)) = true then j546 true else (if a0.f1 < 1 then j546 true else j546 (decide (1048576 < a0.f1))))) else (if a0.f0 = 4 then jn (γ := Bool) (fun (x578 : Bool) => (if x578 = true then some false else j257)) (fun (j579 : (Bool → Option Bool)) => (if (a0.f2.length : Int) < 1 then j579 true else (if 64 < (a0.f2.length : Int) then j579 true else j579 (!decide (a0.f1 = 0))))) else some false)))))
theorem swageref11_shaped.step (rec32 : (S24 → Option Bool)) (ih32 : ∀ {G : Gd} {r : Bool} {a0 : S24} {A1 : Option Addr} {c2 : Nat} (hr3 : Rd G k24 A1 a0.f2) (hl4 : a0.f2.length ≤ c2), rec32 a0 = some r → Fn Tryd.prog 32 G [] [.agg #[.int .i64 a0.f0, .int .i64 a0.f1, .slice A1 a0.f2.length c2]] (swageref11_shaped.post G r)) {G : Gd} {r : Bool} {a0 : S24} {A1 : Option Addr} {c2 : Nat} (hr3 : Rd G k24 A1 a0.f2) (hl4 : a0.f2.length ≤ c2) (h : swageref11_shaped.g rec32 a0 = some r) : Fn Tryd.prog 32 G [] [.agg #[.int .i64 a0.f0, .int .i64 a0.f1, .slice A1 a0.f2.length c2]] (swageref11_shaped.post G r) := by
 refine Fn.intro (e := [(0, .agg #[.int .i64 a0.f0, .int .i64 a0.f1, .slice A1 a0.f2.length c2])]) 69 Tryd.func32 rfl Tryd.ntmps32 rfl rfl (Nat.le_of_ble_eq_true rfl) (fun L => ?_)
 unfold swageref11_shaped.g at h
 refine TC.seq ?_
 refine TC.region ?_
 refine TL.cons (TL.box (cs := [.int .i64 a0.f0, .int .i64 a0.f1, .slice A1 a0.f2.length c2]) rfl rfl rfl rfl (fun b5 => ?_))
 refine TL.cons (TO.val rfl rfl rfl (Val.assign rfl) ?_)
 refine TL.nil ?_
 refine TQ.then_ ?_
 refine TC.seq ?_
 refine TC.region ?_
 refine TL.cons (TO.val rfl rfl rfl (Val.fieldAddrB Tryd.underlying24 rfl fsz22 rfl rfl rfl) ?_)
 refine TL.cons (TO.val rfl rfl rfl (Val.loadB 0 agg22 rfl rfl rfl) ?_)
 refine TL.cons (TO.val rfl rfl rfl (Val.len Tryd.underlying22 rfl) ?_)
 refine TL.cons (TO.val rfl rfl rfl (Val.assign rfl) ?_)
 refine TL.nil ?_
 refine TQ.then_ ?_
 refine TC.seq ?_
 refine TC.seq ?_
 refine TC.region ?_
 refine TL.cons (TO.val rfl rfl rfl (Val.fieldAddrB Tryd.underlying24 rfl fsz3 rfl rfl rfl) ?_)
 refine TL.cons (TO.val rfl rfl rfl (Val.loadB 0 agg3 rfl rfl rfl) ?_)
 refine TL.nil ?_
 refine TQ.then_ ?_
 refine TC.block ?_
 refine TC.seq ?_
 refine TC.region ?_
 refine TL.cons (TO.val rfl rfl rfl (Val.cmp rfl rfl run_eql) ?_)
 refine TL.cons (TO.val rfl rfl rfl (Val.assign rfl) ?_)
 refine TL.nil ?_
 refine TQ.then_ ?_
 obtain ⟨j257, hj257, h⟩ := jn_no h
 refine TC.tail (fun a W => j257 = some r ∧ Fr 69 a [(1, .pointer (some ⟨b5, 0, none⟩)), (3, .int .i64 (a0.f2.length : Int))] ∧ Own G (Blk b5 [.int .i64 a0.f0, .int .i64 a0.f1, .slice A1 a0.f2.length c2] 24 :: L) W) ?_ ?_
 ·
  rintro a W ⟨h, hF, hO⟩
  rw [hj257] at h
  refine TQ.use ?_ hF hO
  clear hF hO
  refine TQ.inB ?_
  refine TQ.then_ ?_
  refine TC.seq ?_
  refine TC.seq ?_
  refine TC.region ?_
  refine TL.cons (TO.val rfl rfl rfl (Val.assign rfl) ?_)
  refine TL.nil ?_
  refine TQ.then_ ?_
  obtain ⟨o368, ho368, ko368⟩ := bind_no h
  clear h
  refine TC.tail (fun a W => (.inr ()) = o368 ∧ Fr 69 a [] ∧ Own G (L) W) ?_ ?_
  ·
   rintro a W ⟨rfl, hF, hO⟩
   have h := ko368
   clear ko368 ho368
   refine TQ.use ?_ hF hO
   clear hF hO
   refine TQ.then_ ?_
   refine TC.seq ?_
   refine TC.region ?_
   refine TL.cons (TO.val rfl rfl rfl (Val.assign rfl) ?_)
   refine TL.nil ?_
   refine TQ.then_ ?_
   refine TC.ret ?_
   obtain rfl := Option.some.inj h
   exact TQ.fin (.inl rfl) rfl Tryd.results32 (.tmp rfl .nil) rfl (FRel.mk (Ls := []) [] 0 (Gd.le.refl _) rfl rfl rfl ⟨rfl, rfl, rfl⟩)
  ·
   refine TC.block ?_
   intro a W hF hO
   have hS : ∃ (x331 : Int), swageref11_shaped.l0 rec32 a0 (a0.f2.length + 1) x331 = some o368 ∧ Fr 69 a [(1, .pointer (some ⟨b5, 0, none⟩)), (3, .int .i64 (a0.f2.length : Int)), (4, .int .i64 x331)] ∧ Own G (Blk b5 [.int .i64 a0.f0, .int .i64 a0.f1, .slice A1 a0.f2.length c2] 24 :: L) W := by
    exact ⟨0, ho368, hF.sub ⟨rfl, rfl, rfl, trivial⟩, hO.selT (Ls := [Blk b5 [.int .i64 a0.f0, .int .i64 a0.f1, .slice A1 a0.f2.length c2] 24]) [0] 1 rfl rfl rfl⟩
   clear hF hO ho368
   refine TC.loop (fun n369 a W => ∃ (x331 : Int), swageref11_shaped.l0 rec32 a0 n369 x331 = some o368 ∧ Fr 69 a [(1, .pointer (some ⟨b5, 0, none⟩)), (3, .int .i64 (a0.f2.length : Int)), (4, .int .i64 x331)] ∧ Own G (Blk b5 [.int .i64 a0.f0, .int .i64 a0.f1, .slice A1 a0.f2.length c2] 24 :: L) W) ?_ ?_ hS
   ·
    rintro a W ⟨x331, h, hF, hO⟩
    exact none_no h
   ·
    clear hS
    rintro n369 a W ⟨x331, h, hF, hO⟩
    rw [swageref11_shaped.l0] at h
    refine TC.use ?_ hF hO
    clear hF hO
    refine TC.seq ?_
    refine TC.seq ?_
    refine TC.region ?_
    refine TL.cons (TO.val rfl rfl rfl (Val.move rfl) ?_)
    refine TL.cons (TO.val rfl rfl rfl (Val.move rfl) ?_)
    refine TL.cons (TO.val rfl rfl rfl (Val.cmp rfl rfl run_lss) ?_)
    refine TL.nil ?_
    refine TQ.then_ ?_
    refine TC.cond_p rfl h (fun hc407 h => ?_) (fun hc407 h => ?_)
    ·
     refine TC.skip ?_
     refine TQ.then_ ?_
     refine TC.seq ?_
     refine TC.block ?_
     refine TC.seq ?_
     refine TC.region ?_
     refine TL.cons (TO.val rfl rfl rfl (Val.fieldAddrB Tryd.underlying24 rfl fsz22 rfl rfl rfl) ?_)
     refine TL.cons (TO.val rfl rfl rfl (Val.loadB 0 agg22 rfl rfl rfl) ?_)
     refine TL.cons (TO.val rfl rfl rfl (Val.move rfl) ?_)
     obtain ⟨y425, hx426, h⟩ := bind_no h
     obtain ⟨ad427, cs433, hA428, hi429, hj430, hcl431, hK432⟩ := Rd.at hr3 hx426
     obtain ⟨A434, c435, rfl, hr436, hl437⟩ := k24_openR hK432
     refine TL.cons (TO.val rfl rfl rfl (Val.indexAddr Tryd.underlying22 fsz24 rfl hA428 rfl hi429 hj430) ?_)
     refine TL.cons (TO.val rfl rfl rfl (Val.loadsS (cs := [.int .i64 y425.f0, .int .i64 y425.f1, .slice A434 y425.f2.length c435]) agg24 fsz24 rfl rfl (Cl.sub (off := 0) (n := 3) hcl431 rfl)) ?_)
     obtain ⟨y438, hy439, h⟩ := bind_no h
     refine TL.cons (TL.callV (Lin := []) (args := [.agg #[.int .i64 y425.f0, .int .i64 y425.f1, .slice A434 y425.f2.length c435]]) rfl rfl rfl hbd32 rfl rfl (ih32 (a0 := y425) hr436 hl437 hy439) rfl ?_)
     rintro _ _ _ _ ⟨rfl, rfl, rfl⟩
     refine TL.cons (TO.val rfl rfl rfl (Val.assign rfl) ?_)
     refine TL.nil ?_
     refine TQ.then_ ?_
     refine TC.seq ?_
     refine TC.region ?_
     refine TL.cons (TO.val rfl rfl rfl (Val.move rfl) ?_)
     refine TL.cons (TO.val rfl rfl rfl (Val.not_ rfl) ?_)
     refine TL.nil ?_
     refine TQ.then_ ?_
     refine TC.cond_b rfl h (fun hc441 h => ?_) (fun hc441 h => ?_)
     ·
      refine TC.seq ?_
      refine TC.region ?_
      refine TL.cons (TO.val rfl rfl rfl (Val.assign rfl) ?_)
      refine TL.nil ?_
      refine TQ.then_ ?_
      refine TC.ret ?_
      refine TQ.inBR ?_
      refine TQ.thenR ?_
      refine TQ.thenR ?_
      refine TQ.inBR ?_
      refine TQ.thenR ?_
      refine TQ.thenR ?_
      obtain rfl := Option.some.inj h
      have h := ko368
      obtain rfl := Option.some.inj h
      exact TQ.fin (.inl rfl) rfl Tryd.results32 (.tmp rfl .nil) rfl (FRel.mk (Ls := []) [] 1 (Gd.le.refl _) rfl rfl rfl ⟨rfl, rfl, rfl⟩)
     ·
      refine TC.skip ?_
      refine TQ.inB ?_
      refine TQ.then_ ?_
      refine TC.region ?_
      refine TL.cons (TO.val rfl rfl rfl (Val.move rfl) ?_)
      refine TL.cons (TO.val rfl rfl rfl (Val.cmp rfl rfl run_add) ?_)
      refine TL.cons (TO.val rfl rfl rfl (Val.assign rfl) ?_)
      refine TL.nil ?_
      exact fun a W hF hO => ⟨IntKind.i64.wrap (x331 + 1), h, hF.sub ⟨rfl, rfl, rfl, trivial⟩, hO.selT (Ls := [Blk b5 [.int .i64 a0.f0, .int .i64 a0.f1, .slice A1 a0.f2.length c2] 24]) [0] 1 rfl rfl rfl⟩
    ·
     refine TC.exit ?_
     refine TQ.thenX ?_
     refine TQ.thenX ?_
     refine TQ.inBX ?_
     exact fun a W hF hO => ⟨Option.some.inj h, hF.sub trivial, hO.selT (Ls := []) [] 1 rfl rfl rfl⟩
 ·
  refine TC.cond_p rfl h (fun hc442 h => ?_) (fun hc442 h => ?_)
  ·
   refine TC.seq ?_
   obtain ⟨j447, hj447, h⟩ := jn_no h
   refine TC.tail (fun a W => ∃ (x446 : Bool), j447 x446 = some r ∧ Fr 69 a [(1, .pointer (some ⟨b5, 0, none⟩)), (3, .int .i64 (a0.f2.length : Int)), (19, .bool x446)] ∧ Own G (Blk b5 [.int .i64 a0.f0, .int .i64 a0.f1, .slice A1 a0.f2.length c2] 24 :: L) W) ?_ ?_
   ·
    rintro a W ⟨x446, h, hF, hO⟩
    rw [hj447] at h
    refine TQ.use ?_ hF hO
    clear hF hO
    refine TQ.then_ ?_
    refine TC.cond_b rfl h (fun hc449 h => ?_) (fun hc449 h => ?_)
    ·
     refine TC.seq ?_
     refine TC.region ?_
     refine TL.cons (TO.val rfl rfl rfl (Val.assign rfl) ?_)
     refine TL.nil ?_
     refine TQ.then_ ?_
     refine TC.ret ?_
     refine TQ.thenR ?_
     refine TQ.inBR ?_
     refine TQ.thenR ?_
     obtain rfl := Option.some.inj h
     exact TQ.fin (.inl rfl) rfl Tryd.results32 (.tmp rfl .nil) rfl (FRel.mk (Ls := []) [] 1 (Gd.le.refl _) rfl rfl rfl ⟨rfl, rfl, rfl⟩)
    ·
     refine TC.skip ?_
     exact fun a W hF hO => ⟨h, hF.sub ⟨rfl, rfl, trivial⟩, hO.selT (Ls := [Blk b5 [.int .i64 a0.f0, .int .i64 a0.f1, .slice A1 a0.f2.length c2] 24]) [0] 1 rfl rfl rfl⟩
   ·
    refine TC.region ?_
    refine TL.cons (TO.val rfl rfl rfl (Val.move rfl) ?_)
    refine TL.cons (TO.val rfl rfl rfl (Val.cmp rfl rfl run_neq) ?_)
    refine TL.cons (TO.val rfl rfl rfl (Val.move rfl) ?_)
    refine TK.split (p := (!decide ((a0.f2.length : Int) = 0)) = true) h (fun hg450 h => ?_) (fun hg450 h => ?_)
    ·
     have hk451 : (!decide ((a0.f2.length : Int) = 0)) = true := hg450
     refine TL.cons (TL.not (Wt.no rfl rfl rfl hk451) rfl ?_)
     refine TL.cons (TL.not (Wt.no rfl rfl rfl hk451) rfl ?_)
     refine TL.cons (TL.not (Wt.no rfl rfl rfl hk451) rfl ?_)
     refine TL.cons (TO.val rfl rfl rfl (Val.pickY rfl hk451 rfl) ?_)
     refine TL.nil ?_
     exact fun a W hF hO => ⟨true, h, hF.sub ⟨rfl, rfl, rfl, trivial⟩, hO.selT (Ls := [Blk b5 [.int .i64 a0.f0, .int .i64 a0.f1, .slice A1 a0.f2.length c2] 24]) [0] 1 rfl rfl rfl⟩
    ·
     have hk452 : (!decide ((a0.f2.length : Int) = 0)) = false := (by simpa using hg450)
     refine TL.cons (TO.val (Wt.yes rfl rfl rfl hk452) rfl rfl (Val.fieldAddrB Tryd.underlying24 rfl fsz3 rfl rfl rfl) ?_)
     refine TL.cons (TO.val (Wt.yes rfl rfl rfl hk452) rfl rfl (Val.loadB 0 agg3 rfl rfl rfl) ?_)
     refine TL.cons (TO.val (Wt.yes rfl rfl rfl hk452) rfl rfl (Val.cmp rfl rfl run_neq) ?_)
     refine TL.cons (TO.val rfl rfl rfl (Val.pickN rfl hk452 rfl) ?_)
     refine TL.nil ?_
     exact fun a W hF hO => ⟨(!decide (a0.f1 = 0)), h, hF.sub ⟨rfl, rfl, rfl, trivial⟩, hO.selT (Ls := [Blk b5 [.int .i64 a0.f0, .int .i64 a0.f1, .slice A1 a0.f2.length c2] 24]) [0] 1 rfl rfl rfl⟩
  ·
   refine TC.seq ?_
   refine TC.region ?_
   refine TL.cons (TO.val rfl rfl rfl (Val.cmp rfl rfl run_eql) ?_)
   refine TL.cons (TO.val rfl rfl rfl (Val.assign rfl) ?_)
   refine TL.nil ?_
   refine TQ.then_ ?_
   refine TC.cond_p rfl h (fun hc495 h => ?_) (fun hc495 h => ?_)
   ·
    refine TC.seq ?_
    obtain ⟨j500, hj500, h⟩ := jn_no h
    refine TC.tail (fun a W => ∃ (x499 : Bool), j500 x499 = some r ∧ Fr 69 a [(1, .pointer (some ⟨b5, 0, none⟩)), (3, .int .i64 (a0.f2.length : Int)), (28, .bool x499)] ∧ Own G (Blk b5 [.int .i64 a0.f0, .int .i64 a0.f1, .slice A1 a0.f2.length c2] 24 :: L) W) ?_ ?_
    ·
     rintro a W ⟨x499, h, hF, hO⟩
     rw [hj500] at h
     refine TQ.use ?_ hF hO
     clear hF hO
     refine TQ.then_ ?_
     refine TC.cond_b rfl h (fun hc502 h => ?_) (fun hc502 h => ?_)
     ·
      refine TC.seq ?_
      refine TC.region ?_
      refine TL.cons (TO.val rfl rfl rfl (Val.assign rfl) ?_)
      refine TL.nil ?_
      refine TQ.then_ ?_
      refine TC.ret ?_
      refine TQ.thenR ?_
      refine TQ.inBR ?_
      refine TQ.thenR ?_
      obtain rfl := Option.some.inj h
      exact TQ.fin (.inl rfl) rfl Tryd.results32 (.tmp rfl .nil) rfl (FRel.mk (Ls := []) [] 1 (Gd.le.refl _) rfl rfl rfl ⟨rfl, rfl, rfl⟩)
     ·
      refine TC.skip ?_
      exact fun a W hF hO => ⟨h, hF.sub ⟨rfl, rfl, trivial⟩, hO.selT (Ls := [Blk b5 [.int .i64 a0.f0, .int .i64 a0.f1, .slice A1 a0.f2.length c2] 24]) [0] 1 rfl rfl rfl⟩
    ·
     refine TC.region ?_
     refine TL.cons (TO.val rfl rfl rfl (Val.move rfl) ?_)
     refine TL.cons (TO.val rfl rfl rfl (Val.cmp rfl rfl run_neq) ?_)
     refine TL.cons (TO.val rfl rfl rfl (Val.move rfl) ?_)
     refine TK.split (p := (!decide ((a0.f2.length : Int) = 1)) = true) h (fun hg503 h => ?_) (fun hg503 h => ?_)
     ·
      have hk504 : (!decide ((a0.f2.length : Int) = 1)) = true := hg503
      refine TL.cons (TL.not (Wt.no rfl rfl rfl hk504) rfl ?_)
      refine TL.cons (TL.not (Wt.no rfl rfl rfl hk504) rfl ?_)
      refine TL.cons (TL.not (Wt.no rfl rfl rfl hk504) rfl ?_)
      refine TL.cons (TO.val rfl rfl rfl (Val.pickY rfl hk504 rfl) ?_)
      refine TL.nil ?_
      exact fun a W hF hO => ⟨true, h, hF.sub ⟨rfl, rfl, rfl, trivial⟩, hO.selT (Ls := [Blk b5 [.int .i64 a0.f0, .int .i64 a0.f1, .slice A1 a0.f2.length c2] 24]) [0] 1 rfl rfl rfl⟩
     ·
      have hk505 : (!decide ((a0.f2.length : Int) = 1)) = false := (by simpa using hg503)
      refine TL.cons (TO.val (Wt.yes rfl rfl rfl hk505) rfl rfl (Val.fieldAddrB Tryd.underlying24 rfl fsz3 rfl rfl rfl) ?_)
      refine TL.cons (TO.val (Wt.yes rfl rfl rfl hk505) rfl rfl (Val.loadB 0 agg3 rfl rfl rfl) ?_)
      refine TL.cons (TO.val (Wt.yes rfl rfl rfl hk505) rfl rfl (Val.cmp rfl rfl run_neq) ?_)
      refine TL.cons (TO.val rfl rfl rfl (Val.pickN rfl hk505 rfl) ?_)
      refine TL.nil ?_
      exact fun a W hF hO => ⟨(!decide (a0.f1 = 0)), h, hF.sub ⟨rfl, rfl, rfl, trivial⟩, hO.selT (Ls := [Blk b5 [.int .i64 a0.f0, .int .i64 a0.f1, .slice A1 a0.f2.length c2] 24]) [0] 1 rfl rfl rfl⟩
   ·
    refine TC.seq ?_
    refine TC.region ?_
    refine TL.cons (TO.val rfl rfl rfl (Val.cmp rfl rfl run_eql) ?_)
    refine TL.cons (TO.val rfl rfl rfl (Val.assign rfl) ?_)
    refine TL.nil ?_
    refine TQ.then_ ?_
    refine TC.cond_p rfl h (fun hc538 h => ?_) (fun hc538 h => ?_)
    ·
     refine TC.seq ?_
     obtain ⟨j546, hj546, h⟩ := jn_no h
     refine TC.tail (fun a W => ∃ (x545 : Bool), j546 x545 = some r ∧ Fr 69 a [(1, .pointer (some ⟨b5, 0, none⟩)), (3, .int .i64 (a0.f2.length : Int)), (42, .bool x545)] ∧ Own G (Blk b5 [.int .i64 a0.f0, .int .i64 a0.f1, .slice A1 a0.f2.length c2] 24 :: L) W) ?_ ?_
     ·
      rintro a W ⟨x545, h, hF, hO⟩
      rw [hj546] at h
      refine TQ.use ?_ hF hO
      clear hF hO
      refine TQ.then_ ?_
      refine TC.cond_b rfl h (fun hc548 h => ?_) (fun hc548 h => ?_)
      ·
       refine TC.seq ?_
       refine TC.region ?_
       refine TL.cons (TO.val rfl rfl rfl (Val.assign rfl) ?_)
       refine TL.nil ?_
       refine TQ.then_ ?_
       refine TC.ret ?_
       refine TQ.thenR ?_
       refine TQ.inBR ?_
       refine TQ.thenR ?_
       obtain rfl := Option.some.inj h
       exact TQ.fin (.inl rfl) rfl Tryd.results32 (.tmp rfl .nil) rfl (FRel.mk (Ls := []) [] 1 (Gd.le.refl _) rfl rfl rfl ⟨rfl, rfl, rfl⟩)
      ·
       refine TC.skip ?_
       exact fun a W hF hO => ⟨h, hF.sub ⟨rfl, rfl, trivial⟩, hO.selT (Ls := [Blk b5 [.int .i64 a0.f0, .int .i64 a0.f1, .slice A1 a0.f2.length c2] 24]) [0] 1 rfl rfl rfl⟩
     ·
      refine TC.region ?_
      refine TL.cons (TO.val rfl rfl rfl (Val.move rfl) ?_)
      refine TL.cons (TO.val rfl rfl rfl (Val.cmp rfl rfl run_neq) ?_)
      refine TL.cons (TO.val rfl rfl rfl (Val.move rfl) ?_)
      refine TK.split (p := (!decide ((a0.f2.length : Int) = 1)) = true) h (fun hg549 h => ?_) (fun hg549 h => ?_)
      ·
       have hk550 : (!decide ((a0.f2.length : Int) = 1)) = true := hg549
       refine TL.cons (TL.not (Wt.no rfl rfl rfl hk550) rfl ?_)
       refine TL.cons (TL.not (Wt.no rfl rfl rfl hk550) rfl ?_)
       refine TL.cons (TL.not (Wt.no rfl rfl rfl hk550) rfl ?_)
       refine TL.cons (TO.val rfl rfl rfl (Val.pickY rfl hk550 rfl) ?_)
       refine TL.cons (TO.val rfl rfl rfl (Val.move rfl) ?_)
       refine TL.cons (TL.not (Wt.no rfl rfl rfl rfl) rfl ?_)
       refine TL.cons (TL.not (Wt.no rfl rfl rfl rfl) rfl ?_)
       refine TL.cons (TL.not (Wt.no rfl rfl rfl rfl) rfl ?_)
       refine TL.cons (TO.val rfl rfl rfl (Val.pickY rfl rfl rfl) ?_)
       refine TL.nil ?_
       exact fun a W hF hO => ⟨true, h, hF.sub ⟨rfl, rfl, rfl, trivial⟩, hO.selT (Ls := [Blk b5 [.int .i64 a0.f0, .int .i64 a0.f1, .slice A1 a0.f2.length c2] 24]) [0] 1 rfl rfl rfl⟩
      ·
       have hk551 : (!decide ((a0.f2.length : Int) = 1)) = false := (by simpa using hg549)
       refine TL.cons (TO.val (Wt.yes rfl rfl rfl hk551) rfl rfl (Val.fieldAddrB Tryd.underlying24 rfl fsz3 rfl rfl rfl) ?_)
       refine TL.cons (TO.val (Wt.yes rfl rfl rfl hk551) rfl rfl (Val.loadB 0 agg3 rfl rfl rfl) ?_)
       refine TL.cons (TO.val (Wt.yes rfl rfl rfl hk551) rfl rfl (Val.cmp rfl rfl run_lss) ?_)
       refine TL.cons (TO.val rfl rfl rfl (Val.pickN rfl hk551 rfl) ?_)
       refine TL.cons (TO.val rfl rfl rfl (Val.move rfl) ?_)
       refine TK.split (p := a0.f1 < 1) h (fun hg552 h => ?_) (fun hg552 h => ?_)
       ·
        have hk553 : decide (a0.f1 < 1) = true := decide_eq_true hg552
        refine TL.cons (TL.not (Wt.no rfl rfl rfl hk553) rfl ?_)
        refine TL.cons (TL.not (Wt.no rfl rfl rfl hk553) rfl ?_)
        refine TL.cons (TL.not (Wt.no rfl rfl rfl hk553) rfl ?_)
        refine TL.cons (TO.val rfl rfl rfl (Val.pickY rfl hk553 rfl) ?_)
        refine TL.nil ?_
        exact fun a W hF hO => ⟨true, h, hF.sub ⟨rfl, rfl, rfl, trivial⟩, hO.selT (Ls := [Blk b5 [.int .i64 a0.f0, .int .i64 a0.f1, .slice A1 a0.f2.length c2] 24]) [0] 1 rfl rfl rfl⟩
       ·
        have hk554 : decide (a0.f1 < 1) = false := decide_eq_false hg552
        refine TL.cons (TO.val (Wt.yes rfl rfl rfl hk554) rfl rfl (Val.fieldAddrB Tryd.underlying24 rfl fsz3 rfl rfl rfl) ?_)
        refine TL.cons (TO.val (Wt.yes rfl rfl rfl hk554) rfl rfl (Val.loadB 0 agg3 rfl rfl rfl) ?_)
        refine TL.cons (TO.val (Wt.yes rfl rfl rfl hk554) rfl rfl (Val.cmp rfl rfl run_gtr) ?_)
        refine TL.cons (TO.val rfl rfl rfl (Val.pickN rfl hk554 rfl) ?_)
        refine TL.nil ?_
        exact fun a W hF hO => ⟨decide (1048576 < a0.f1), h, hF.sub ⟨rfl, rfl, rfl, trivial⟩, hO.selT (Ls := [Blk b5 [.int .i64 a0.f0, .int .i64 a0.f1, .slice A1 a0.f2.length c2] 24]) [0] 1 rfl rfl rfl⟩
    ·
     refine TC.seq ?_
     refine TC.region ?_
     refine TL.cons (TO.val rfl rfl rfl (Val.cmp rfl rfl run_eql) ?_)
     refine TL.cons (TO.val rfl rfl rfl (Val.assign rfl) ?_)
     refine TL.nil ?_
     refine TQ.then_ ?_
     refine TC.cond_p rfl h (fun hc571 h => ?_) (fun hc571 h => ?_)
     ·
      refine TC.seq ?_
      obtain ⟨j579, hj579, h⟩ := jn_no h
      refine TC.tail (fun a W => ∃ (x578 : Bool), j579 x578 = some r ∧ Fr 69 a [(1, .pointer (some ⟨b5, 0, none⟩)), (3, .int .i64 (a0.f2.length : Int)), (55, .bool x578)] ∧ Own G (Blk b5 [.int .i64 a0.f0, .int .i64 a0.f1, .slice A1 a0.f2.length c2] 24 :: L) W) ?_ ?_
      ·
       rintro a W ⟨x578, h, hF, hO⟩
       rw [hj579] at h
       refine TQ.use ?_ hF hO
       clear hF hO
       refine TQ.then_ ?_
       refine TC.cond_b rfl h (fun hc581 h => ?_) (fun hc581 h => ?_)
       ·
        refine TC.seq ?_
        refine TC.region ?_
        refine TL.cons (TO.val rfl rfl rfl (Val.assign rfl) ?_)
        refine TL.nil ?_
        refine TQ.then_ ?_
        refine TC.ret ?_
        refine TQ.thenR ?_
        refine TQ.inBR ?_
        refine TQ.thenR ?_
        obtain rfl := Option.some.inj h
        exact TQ.fin (.inl rfl) rfl Tryd.results32 (.tmp rfl .nil) rfl (FRel.mk (Ls := []) [] 1 (Gd.le.refl _) rfl rfl rfl ⟨rfl, rfl, rfl⟩)
       ·
        refine TC.skip ?_
        exact fun a W hF hO => ⟨h, hF.sub ⟨rfl, rfl, trivial⟩, hO.selT (Ls := [Blk b5 [.int .i64 a0.f0, .int .i64 a0.f1, .slice A1 a0.f2.length c2] 24]) [0] 1 rfl rfl rfl⟩
      ·
       refine TC.region ?_
       refine TL.cons (TO.val rfl rfl rfl (Val.move rfl) ?_)
       refine TL.cons (TO.val rfl rfl rfl (Val.cmp rfl rfl run_lss) ?_)
       refine TL.cons (TO.val rfl rfl rfl (Val.move rfl) ?_)
       refine TK.split (p := (a0.f2.length : Int) < 1) h (fun hg582 h => ?_) (fun hg582 h => ?_)
       ·
        have hk583 : decide ((a0.f2.length : Int) < 1) = true := decide_eq_true hg582
        refine TL.cons (TL.not (Wt.no rfl rfl rfl hk583) rfl ?_)
        refine TL.cons (TL.not (Wt.no rfl rfl rfl hk583) rfl ?_)
        refine TL.cons (TO.val rfl rfl rfl (Val.pickY rfl hk583 rfl) ?_)
        refine TL.cons (TO.val rfl rfl rfl (Val.move rfl) ?_)
        refine TL.cons (TL.not (Wt.no rfl rfl rfl rfl) rfl ?_)
        refine TL.cons (TL.not (Wt.no rfl rfl rfl rfl) rfl ?_)
        refine TL.cons (TL.not (Wt.no rfl rfl rfl rfl) rfl ?_)
        refine TL.cons (TO.val rfl rfl rfl (Val.pickY rfl rfl rfl) ?_)
        refine TL.nil ?_
        exact fun a W hF hO => ⟨true, h, hF.sub ⟨rfl, rfl, rfl, trivial⟩, hO.selT (Ls := [Blk b5 [.int .i64 a0.f0, .int .i64 a0.f1, .slice A1 a0.f2.length c2] 24]) [0] 1 rfl rfl rfl⟩
       ·
        have hk584 : decide ((a0.f2.length : Int) < 1) = false := decide_eq_false hg582
        refine TL.cons (TO.val (Wt.yes rfl rfl rfl hk584) rfl rfl (Val.move rfl) ?_)
        refine TL.cons (TO.val (Wt.yes rfl rfl rfl hk584) rfl rfl (Val.cmp rfl rfl run_gtr) ?_)
        refine TL.cons (TO.val rfl rfl rfl (Val.pickN rfl hk584 rfl) ?_)
        refine TL.cons (TO.val rfl rfl rfl (Val.move rfl) ?_)
        refine TK.split (p := 64 < (a0.f2.length : Int)) h (fun hg585 h => ?_) (fun hg585 h => ?_)
        ·
         have hk586 : decide (64 < (a0.f2.length : Int)) = true := decide_eq_true hg585
         refine TL.cons (TL.not (Wt.no rfl rfl rfl hk586) rfl ?_)
         refine TL.cons (TL.not (Wt.no rfl rfl rfl hk586) rfl ?_)
         refine TL.cons (TL.not (Wt.no rfl rfl rfl hk586) rfl ?_)
         refine TL.cons (TO.val rfl rfl rfl (Val.pickY rfl hk586 rfl) ?_)
         refine TL.nil ?_
         exact fun a W hF hO => ⟨true, h, hF.sub ⟨rfl, rfl, rfl, trivial⟩, hO.selT (Ls := [Blk b5 [.int .i64 a0.f0, .int .i64 a0.f1, .slice A1 a0.f2.length c2] 24]) [0] 1 rfl rfl rfl⟩
        ·
         have hk587 : decide (64 < (a0.f2.length : Int)) = false := decide_eq_false hg585
         refine TL.cons (TO.val (Wt.yes rfl rfl rfl hk587) rfl rfl (Val.fieldAddrB Tryd.underlying24 rfl fsz3 rfl rfl rfl) ?_)
         refine TL.cons (TO.val (Wt.yes rfl rfl rfl hk587) rfl rfl (Val.loadB 0 agg3 rfl rfl rfl) ?_)
         refine TL.cons (TO.val (Wt.yes rfl rfl rfl hk587) rfl rfl (Val.cmp rfl rfl run_neq) ?_)
         refine TL.cons (TO.val rfl rfl rfl (Val.pickN rfl hk587 rfl) ?_)
         refine TL.nil ?_
         exact fun a W hF hO => ⟨(!decide (a0.f1 = 0)), h, hF.sub ⟨rfl, rfl, rfl, trivial⟩, hO.selT (Ls := [Blk b5 [.int .i64 a0.f0, .int .i64 a0.f1, .slice A1 a0.f2.length c2] 24]) [0] 1 rfl rfl rfl⟩
     ·
      refine TC.seq ?_
      refine TC.region ?_
      refine TL.cons (TO.val rfl rfl rfl (Val.assign rfl) ?_)
      refine TL.nil ?_
      refine TQ.then_ ?_
      refine TC.ret ?_
      refine TQ.thenR ?_
      refine TQ.inBR ?_
      refine TQ.thenR ?_
      obtain rfl := Option.some.inj h
      exact TQ.fin (.inl rfl) rfl Tryd.results32 (.tmp rfl .nil) rfl (FRel.mk (Ls := []) [] 1 (Gd.le.refl _) rfl rfl rfl ⟨rfl, rfl, rfl⟩)
def swageref11_shaped.fix : Nat → (S24 → Option Bool)
 | 0 => (fun _ => none)
 | n + 1 => swageref11_shaped.g (swageref11_shaped.fix n)
theorem swageref11_shaped.fixc : ∀ k, (∀ {G : Gd} {r : Bool} {a0 : S24} {A1 : Option Addr} {c2 : Nat} (hr3 : Rd G k24 A1 a0.f2) (hl4 : a0.f2.length ≤ c2), (swageref11_shaped.fix k) a0 = some r → Fn Tryd.prog 32 G [] [.agg #[.int .i64 a0.f0, .int .i64 a0.f1, .slice A1 a0.f2.length c2]] (swageref11_shaped.post G r)) ∧ True
 | 0 => ⟨(by intros; contradiction), trivial⟩
 | k + 1 => by
  have ih := swageref11_shaped.fixc k
  exact ⟨(by
   intro G r a0 A1 c2 hr3 hl4 h
   exact swageref11_shaped.step _ ih.1 hr3 hl4 h), trivial⟩
def swageref11_shaped.f (a0 : S24) : Option Bool := (swageref11_shaped.fix 1000) a0
theorem swageref11_shaped.calls {G : Gd} {r : Bool} {a0 : S24} {A1 : Option Addr} {c2 : Nat} (hr3 : Rd G k24 A1 a0.f2) (hl4 : a0.f2.length ≤ c2) (h : swageref11_shaped.f a0 = some r) : Fn Tryd.prog 32 G [] [.agg #[.int .i64 a0.f0, .int .i64 a0.f1, .slice A1 a0.f2.length c2]] (swageref11_shaped.post G r) := (swageref11_shaped.fixc 1000).1 hr3 hl4 h
end Go.Proofs.YtdklnjmdaecboaaDoor.Sy
set_option linter.unusedVariables false
set_option linter.unusedSimpArgs false
set_option maxRecDepth 100000
set_option maxHeartbeats 4000000
namespace Go.Proofs.YtdklnjmdaecboaaDoor.Sy
open Go Go.RowKit Go.Proofs.YtdklnjmdaecboaaDoorW.PrintWords 
def swageref11_depth.post (G : Gd) (r : Int) (v : Value) (G' : Gd) (Lr : List Ch) : Prop := G = G' ∧ v = .int .i64 r ∧ Lr = []
def swageref11_depth.l0 (rec33 : (S24 → Option Int)) (a0 : S24) : Nat → Int → Int → Option (Int)
 | 0, _, _ => none
 | n108 + 1, x72, x73 => (if x73 < (a0.f2.length : Int) then (at? a0.f2 x73).bind fun y158 => (rec33 y158).bind fun (y171 : Int) => swageref11_depth.l0 rec33 a0 n108 (if x72 < y171 then y171 else x72) (IntKind.i64.wrap (x73 + 1)) else some x72)
def swageref11_depth.g (rec33 : (S24 → Option Int)) (a0 : S24) : Option Int := (swageref11_depth.l0 rec33 a0 (a0.f2.length + 1) 0 0).bind fun (x106 : Int) => some (IntKind.i64.wrap (x106 + 1))
theorem swageref11_depth.step (rec33 : (S24 → Option Int)) (ih33 : ∀ {G : Gd} {r : Int} {a0 : S24} {A1 : Option Addr} {c2 : Nat} (hr3 : Rd G k24 A1 a0.f2) (hl4 : a0.f2.length ≤ c2), rec33 a0 = some r → Fn Tryd.prog 33 G [] [.agg #[.int .i64 a0.f0, .int .i64 a0.f1, .slice A1 a0.f2.length c2]] (swageref11_depth.post G r)) {G : Gd} {r : Int} {a0 : S24} {A1 : Option Addr} {c2 : Nat} (hr3 : Rd G k24 A1 a0.f2) (hl4 : a0.f2.length ≤ c2) (h : swageref11_depth.g rec33 a0 = some r) : Fn Tryd.prog 33 G [] [.agg #[.int .i64 a0.f0, .int .i64 a0.f1, .slice A1 a0.f2.length c2]] (swageref11_depth.post G r) := by
 refine Fn.intro (e := [(0, .agg #[.int .i64 a0.f0, .int .i64 a0.f1, .slice A1 a0.f2.length c2])]) 22 Tryd.func33 rfl Tryd.ntmps33 rfl rfl (Nat.le_of_ble_eq_true rfl) (fun L => ?_)
 unfold swageref11_depth.g at h
 refine TC.seq ?_
 refine TC.region ?_
 refine TL.cons (TL.box (cs := [.int .i64 a0.f0, .int .i64 a0.f1, .slice A1 a0.f2.length c2]) rfl rfl rfl rfl (fun b5 => ?_))
 refine TL.cons (TO.val rfl rfl rfl (Val.assign rfl) ?_)
 refine TL.nil ?_
 refine TQ.then_ ?_
 refine TC.seq ?_
 refine TC.region ?_
 refine TL.cons (TO.val rfl rfl rfl (Val.assign rfl) ?_)
 refine TL.nil ?_
 refine TQ.then_ ?_
 refine TC.seq ?_
 refine TC.seq ?_
 refine TC.region ?_
 refine TL.cons (TO.val rfl rfl rfl (Val.assign rfl) ?_)
 refine TL.nil ?_
 refine TQ.then_ ?_
 obtain ⟨o107, ho107, ko107⟩ := bind_no h
 clear h
 refine TC.tail (fun a W => ∃ (x106 : Int), x106 = o107 ∧ Fr 22 a [(3, .int .i64 x106)] ∧ Own G (L) W) ?_ ?_
 ·
  rintro a W ⟨x106, rfl, hF, hO⟩
  have h := ko107
  clear ko107 ho107
  refine TQ.use ?_ hF hO
  clear hF hO
  refine TQ.then_ ?_
  refine TC.seq ?_
  refine TC.region ?_
  refine TL.cons (TO.val rfl rfl rfl (Val.move rfl) ?_)
  refine TL.cons (TO.val rfl rfl rfl (Val.cmp rfl rfl run_add) ?_)
  refine TL.cons (TO.val rfl rfl rfl (Val.assign rfl) ?_)
  refine TL.nil ?_
  refine TQ.then_ ?_
  refine TC.ret ?_
  obtain rfl := Option.some.inj h
  exact TQ.fin (.inl rfl) rfl Tryd.results33 (.tmp rfl .nil) rfl (FRel.mk (Ls := []) [] 0 (Gd.le.refl _) rfl rfl rfl ⟨rfl, rfl, rfl⟩)
 ·
  refine TC.block ?_
  intro a W hF hO
  have hS : ∃ (x72 : Int) (x73 : Int), swageref11_depth.l0 rec33 a0 (a0.f2.length + 1) x72 x73 = some o107 ∧ Fr 22 a [(1, .pointer (some ⟨b5, 0, none⟩)), (3, .int .i64 x72), (4, .int .i64 x73)] ∧ Own G (Blk b5 [.int .i64 a0.f0, .int .i64 a0.f1, .slice A1 a0.f2.length c2] 24 :: L) W := by
   exact ⟨0, 0, ho107, hF.sub ⟨rfl, rfl, rfl, trivial⟩, hO.selT (Ls := [Blk b5 [.int .i64 a0.f0, .int .i64 a0.f1, .slice A1 a0.f2.length c2] 24]) [0] 1 rfl rfl rfl⟩
  clear hF hO ho107 ko107
  refine TC.loop (fun n108 a W => ∃ (x72 : Int) (x73 : Int), swageref11_depth.l0 rec33 a0 n108 x72 x73 = some o107 ∧ Fr 22 a [(1, .pointer (some ⟨b5, 0, none⟩)), (3, .int .i64 x72), (4, .int .i64 x73)] ∧ Own G (Blk b5 [.int .i64 a0.f0, .int .i64 a0.f1, .slice A1 a0.f2.length c2] 24 :: L) W) ?_ ?_ hS
  ·
   rintro a W ⟨x72, x73, h, hF, hO⟩
   exact none_no h
  ·
   clear hS
   rintro n108 a W ⟨x72, x73, h, hF, hO⟩
   rw [swageref11_depth.l0] at h
   refine TC.use ?_ hF hO
   clear hF hO
   refine TC.seq ?_
   refine TC.seq ?_
   refine TC.region ?_
   refine TL.cons (TO.val rfl rfl rfl (Val.move rfl) ?_)
   refine TL.cons (TO.val rfl rfl rfl (Val.fieldAddrB Tryd.underlying24 rfl fsz22 rfl rfl rfl) ?_)
   refine TL.cons (TO.val rfl rfl rfl (Val.loadB 0 agg22 rfl rfl rfl) ?_)
   refine TL.cons (TO.val rfl rfl rfl (Val.len Tryd.underlying22 rfl) ?_)
   refine TL.cons (TO.val rfl rfl rfl (Val.cmp rfl rfl run_lss) ?_)
   refine TL.nil ?_
   refine TQ.then_ ?_
   refine TC.cond_p rfl h (fun hc142 h => ?_) (fun hc142 h => ?_)
   ·
    refine TC.skip ?_
    refine TQ.then_ ?_
    refine TC.seq ?_
    refine TC.block ?_
    refine TC.region ?_
    refine TL.cons (TO.val rfl rfl rfl (Val.move rfl) ?_)
    refine TL.cons (TO.val rfl rfl rfl (Val.fieldAddrB Tryd.underlying24 rfl fsz22 rfl rfl rfl) ?_)
    refine TL.cons (TO.val rfl rfl rfl (Val.loadB 0 agg22 rfl rfl rfl) ?_)
    refine TL.cons (TO.val rfl rfl rfl (Val.move rfl) ?_)
    obtain ⟨y158, hx159, h⟩ := bind_no h
    obtain ⟨ad160, cs166, hA161, hi162, hj163, hcl164, hK165⟩ := Rd.at hr3 hx159
    obtain ⟨A167, c168, rfl, hr169, hl170⟩ := k24_openR hK165
    refine TL.cons (TO.val rfl rfl rfl (Val.indexAddr Tryd.underlying22 fsz24 rfl hA161 rfl hi162 hj163) ?_)
    refine TL.cons (TO.val rfl rfl rfl (Val.loadsS (cs := [.int .i64 y158.f0, .int .i64 y158.f1, .slice A167 y158.f2.length c168]) agg24 fsz24 rfl rfl (Cl.sub (off := 0) (n := 3) hcl164 rfl)) ?_)
    obtain ⟨y171, hy172, h⟩ := bind_no h
    refine TL.cons (TL.callV (Lin := []) (args := [.agg #[.int .i64 y158.f0, .int .i64 y158.f1, .slice A167 y158.f2.length c168]]) rfl rfl rfl hbd33 rfl rfl (ih33 (a0 := y158) hr169 hl170 hy172) rfl ?_)
    rintro _ _ _ _ ⟨rfl, rfl, rfl⟩
    refine TL.cons (TO.val rfl rfl rfl (Val.max2 rfl rfl) ?_)
    refine TL.cons (TO.val rfl rfl rfl (Val.assign rfl) ?_)
    refine TL.nil ?_
    refine TQ.inB ?_
    refine TQ.then_ ?_
    refine TC.region ?_
    refine TL.cons (TO.val rfl rfl rfl (Val.move rfl) ?_)
    refine TL.cons (TO.val rfl rfl rfl (Val.cmp rfl rfl run_add) ?_)
    refine TL.cons (TO.val rfl rfl rfl (Val.assign rfl) ?_)
    refine TL.nil ?_
    exact fun a W hF hO => ⟨(if x72 < y171 then y171 else x72), IntKind.i64.wrap (x73 + 1), h, hF.sub ⟨rfl, rfl, rfl, trivial⟩, hO.selT (Ls := [Blk b5 [.int .i64 a0.f0, .int .i64 a0.f1, .slice A1 a0.f2.length c2] 24]) [0] 1 rfl rfl rfl⟩
   ·
    refine TC.exit ?_
    refine TQ.thenX ?_
    refine TQ.thenX ?_
    refine TQ.inBX ?_
    exact fun a W hF hO => ⟨x72, Option.some.inj h, hF.sub ⟨rfl, trivial⟩, hO.selT (Ls := []) [] 1 rfl rfl rfl⟩
def swageref11_depth.fix : Nat → (S24 → Option Int)
 | 0 => (fun _ => none)
 | n + 1 => swageref11_depth.g (swageref11_depth.fix n)
theorem swageref11_depth.fixc : ∀ k, (∀ {G : Gd} {r : Int} {a0 : S24} {A1 : Option Addr} {c2 : Nat} (hr3 : Rd G k24 A1 a0.f2) (hl4 : a0.f2.length ≤ c2), (swageref11_depth.fix k) a0 = some r → Fn Tryd.prog 33 G [] [.agg #[.int .i64 a0.f0, .int .i64 a0.f1, .slice A1 a0.f2.length c2]] (swageref11_depth.post G r)) ∧ True
 | 0 => ⟨(by intros; contradiction), trivial⟩
 | k + 1 => by
  have ih := swageref11_depth.fixc k
  exact ⟨(by
   intro G r a0 A1 c2 hr3 hl4 h
   exact swageref11_depth.step _ ih.1 hr3 hl4 h), trivial⟩
def swageref11_depth.f (a0 : S24) : Option Int := (swageref11_depth.fix 1000) a0
theorem swageref11_depth.calls {G : Gd} {r : Int} {a0 : S24} {A1 : Option Addr} {c2 : Nat} (hr3 : Rd G k24 A1 a0.f2) (hl4 : a0.f2.length ≤ c2) (h : swageref11_depth.f a0 = some r) : Fn Tryd.prog 33 G [] [.agg #[.int .i64 a0.f0, .int .i64 a0.f1, .slice A1 a0.f2.length c2]] (swageref11_depth.post G r) := (swageref11_depth.fixc 1000).1 hr3 hl4 h
end Go.Proofs.YtdklnjmdaecboaaDoor.Sy
set_option linter.unusedVariables false
set_option linter.unusedSimpArgs false
set_option maxRecDepth 100000
set_option maxHeartbeats 4000000
namespace Go.Proofs.YtdklnjmdaecboaaDoor.Sy
open Go Go.RowKit Go.Proofs.YtdklnjmdaecboaaDoorW.PrintWords 
def swageref11_Right.post (G : Gd) (r : Bool) (v : Value) (G' : Gd) (Lr : List Ch) : Prop := G = G' ∧ v = .bool r ∧ Lr = []
def swageref11_Right.l0 (rec16 : (S24 → Option Bool)) (a0 : S24) : Nat → Int → Option (Sum Bool (Unit))
 | 0, _ => none
 | n133 + 1, x95 => (if x95 < (a0.f2.length : Int) then (at? a0.f2 x95).bind fun y189 => (rec16 y189).bind fun (y202 : Bool) => (if (!y202) = true then some (.inl false) else swageref11_Right.l0 rec16 a0 n133 (IntKind.i64.wrap (x95 + 1))) else some (.inr ()))
def swageref11_Right.g (rec16 : (S24 → Option Bool)) (a0 : S24) : Option Bool := (swageref11_shaped.f a0).bind fun (y6 : Bool) => jn (γ := Bool) (fun (x18 : Bool) => (if x18 = true then some false else (swageref11_Right.l0 rec16 a0 (a0.f2.length + 1) 0).bind fun | .inl q_ => some q_ | .inr _ => (some true))) (fun (j19 : (Bool → Option Bool)) => (if (!y6) = true then j19 true else (swageref11_depth.f a0).bind fun (y209 : Int) => (if 100 < y209 then j19 true else (swageref11_cells.f a0).bind fun (y214 : Int) => j19 (decide (1048576 < y214)))))
theorem swageref11_Right.step (rec16 : (S24 → Option Bool)) (ih16 : ∀ {G : Gd} {r : Bool} {a0 : S24} {A1 : Option Addr} {c2 : Nat} (hr3 : Rd G k24 A1 a0.f2) (hl4 : a0.f2.length ≤ c2), rec16 a0 = some r → Fn Tryd.prog 16 G [] [.agg #[.int .i64 a0.f0, .int .i64 a0.f1, .slice A1 a0.f2.length c2]] (swageref11_Right.post G r)) {G : Gd} {r : Bool} {a0 : S24} {A1 : Option Addr} {c2 : Nat} (hr3 : Rd G k24 A1 a0.f2) (hl4 : a0.f2.length ≤ c2) (h : swageref11_Right.g rec16 a0 = some r) : Fn Tryd.prog 16 G [] [.agg #[.int .i64 a0.f0, .int .i64 a0.f1, .slice A1 a0.f2.length c2]] (swageref11_Right.post G r) := by
 refine Fn.intro (e := [(0, .agg #[.int .i64 a0.f0, .int .i64 a0.f1, .slice A1 a0.f2.length c2])]) 35 Tryd.func16 rfl Tryd.ntmps16 rfl rfl (Nat.le_of_ble_eq_true rfl) (fun L => ?_)
 unfold swageref11_Right.g at h
 refine TC.seq ?_
 refine TC.region ?_
 refine TL.cons (TL.box (cs := [.int .i64 a0.f0, .int .i64 a0.f1, .slice A1 a0.f2.length c2]) rfl rfl rfl rfl (fun b5 => ?_))
 refine TL.cons (TO.val rfl rfl rfl (Val.assign rfl) ?_)
 refine TL.nil ?_
 refine TQ.then_ ?_
 refine TC.seq ?_
 refine TC.region ?_
 refine TL.cons (TO.val rfl rfl rfl (Val.loadsB 0 (cs := [.int .i64 a0.f0, .int .i64 a0.f1, .slice A1 a0.f2.length c2]) agg24 fsz24 rfl rfl rfl rfl) ?_)
 obtain ⟨y6, hy7, h⟩ := bind_no h
 refine TL.cons (TL.callV (Lin := []) (args := [.agg #[.int .i64 a0.f0, .int .i64 a0.f1, .slice A1 a0.f2.length c2]]) rfl rfl rfl hbd32 rfl rfl (swageref11_shaped.calls (a0 := a0) hr3 hl4 hy7) rfl ?_)
 rintro _ _ _ _ ⟨rfl, rfl, rfl⟩
 refine TL.cons (TO.val rfl rfl rfl (Val.assign rfl) ?_)
 refine TL.nil ?_
 refine TQ.then_ ?_
 refine TC.seq ?_
 refine TC.seq ?_
 obtain ⟨j19, hj19, h⟩ := jn_no h
 refine TC.tail (fun a W => ∃ (x18 : Bool), j19 x18 = some r ∧ Fr 35 a [(1, .pointer (some ⟨b5, 0, none⟩)), (19, .bool x18)] ∧ Own G (Blk b5 [.int .i64 a0.f0, .int .i64 a0.f1, .slice A1 a0.f2.length c2] 24 :: L) W) ?_ ?_
 ·
  rintro a W ⟨x18, h, hF, hO⟩
  rw [hj19] at h
  refine TQ.use ?_ hF hO
  clear hF hO
  refine TQ.then_ ?_
  refine TC.cond_b rfl h (fun hc21 h => ?_) (fun hc21 h => ?_)
  ·
   refine TC.seq ?_
   refine TC.region ?_
   refine TL.cons (TO.val rfl rfl rfl (Val.assign rfl) ?_)
   refine TL.nil ?_
   refine TQ.then_ ?_
   refine TC.ret ?_
   refine TQ.thenR ?_
   obtain rfl := Option.some.inj h
   exact TQ.fin (.inl rfl) rfl Tryd.results16 (.tmp rfl .nil) rfl (FRel.mk (Ls := []) [] 1 (Gd.le.refl _) rfl rfl rfl ⟨rfl, rfl, rfl⟩)
  ·
   refine TC.skip ?_
   refine TQ.then_ ?_
   refine TC.seq ?_
   refine TC.seq ?_
   refine TC.region ?_
   refine TL.cons (TO.val rfl rfl rfl (Val.assign rfl) ?_)
   refine TL.nil ?_
   refine TQ.then_ ?_
   obtain ⟨o132, ho132, ko132⟩ := bind_no h
   clear h
   refine TC.tail (fun a W => (.inr ()) = o132 ∧ Fr 35 a [] ∧ Own G (L) W) ?_ ?_
   ·
    rintro a W ⟨rfl, hF, hO⟩
    have h := ko132
    clear ko132 ho132
    refine TQ.use ?_ hF hO
    clear hF hO
    refine TQ.then_ ?_
    refine TC.seq ?_
    refine TC.region ?_
    refine TL.cons (TO.val rfl rfl rfl (Val.assign rfl) ?_)
    refine TL.nil ?_
    refine TQ.then_ ?_
    refine TC.ret ?_
    obtain rfl := Option.some.inj h
    exact TQ.fin (.inl rfl) rfl Tryd.results16 (.tmp rfl .nil) rfl (FRel.mk (Ls := []) [] 0 (Gd.le.refl _) rfl rfl rfl ⟨rfl, rfl, rfl⟩)
   ·
    refine TC.block ?_
    intro a W hF hO
    have hS : ∃ (x95 : Int), swageref11_Right.l0 rec16 a0 (a0.f2.length + 1) x95 = some o132 ∧ Fr 35 a [(1, .pointer (some ⟨b5, 0, none⟩)), (4, .int .i64 x95)] ∧ Own G (Blk b5 [.int .i64 a0.f0, .int .i64 a0.f1, .slice A1 a0.f2.length c2] 24 :: L) W := by
     exact ⟨0, ho132, hF.sub ⟨rfl, rfl, trivial⟩, hO.selT (Ls := [Blk b5 [.int .i64 a0.f0, .int .i64 a0.f1, .slice A1 a0.f2.length c2] 24]) [0] 1 rfl rfl rfl⟩
    clear hF hO ho132
    refine TC.loop (fun n133 a W => ∃ (x95 : Int), swageref11_Right.l0 rec16 a0 n133 x95 = some o132 ∧ Fr 35 a [(1, .pointer (some ⟨b5, 0, none⟩)), (4, .int .i64 x95)] ∧ Own G (Blk b5 [.int .i64 a0.f0, .int .i64 a0.f1, .slice A1 a0.f2.length c2] 24 :: L) W) ?_ ?_ hS
    ·
     rintro a W ⟨x95, h, hF, hO⟩
     exact none_no h
    ·
     clear hS
     rintro n133 a W ⟨x95, h, hF, hO⟩
     rw [swageref11_Right.l0] at h
     refine TC.use ?_ hF hO
     clear hF hO
     refine TC.seq ?_
     refine TC.seq ?_
     refine TC.region ?_
     refine TL.cons (TO.val rfl rfl rfl (Val.move rfl) ?_)
     refine TL.cons (TO.val rfl rfl rfl (Val.fieldAddrB Tryd.underlying24 rfl fsz22 rfl rfl rfl) ?_)
     refine TL.cons (TO.val rfl rfl rfl (Val.loadB 0 agg22 rfl rfl rfl) ?_)
     refine TL.cons (TO.val rfl rfl rfl (Val.len Tryd.underlying22 rfl) ?_)
     refine TL.cons (TO.val rfl rfl rfl (Val.cmp rfl rfl run_lss) ?_)
     refine TL.nil ?_
     refine TQ.then_ ?_
     refine TC.cond_p rfl h (fun hc171 h => ?_) (fun hc171 h => ?_)
     ·
      refine TC.skip ?_
      refine TQ.then_ ?_
      refine TC.seq ?_
      refine TC.block ?_
      refine TC.seq ?_
      refine TC.region ?_
      refine TL.cons (TO.val rfl rfl rfl (Val.fieldAddrB Tryd.underlying24 rfl fsz22 rfl rfl rfl) ?_)
      refine TL.cons (TO.val rfl rfl rfl (Val.loadB 0 agg22 rfl rfl rfl) ?_)
      refine TL.cons (TO.val rfl rfl rfl (Val.move rfl) ?_)
      obtain ⟨y189, hx190, h⟩ := bind_no h
      obtain ⟨ad191, cs197, hA192, hi193, hj194, hcl195, hK196⟩ := Rd.at hr3 hx190
      obtain ⟨A198, c199, rfl, hr200, hl201⟩ := k24_openR hK196
      refine TL.cons (TO.val rfl rfl rfl (Val.indexAddr Tryd.underlying22 fsz24 rfl hA192 rfl hi193 hj194) ?_)
      refine TL.cons (TO.val rfl rfl rfl (Val.loadsS (cs := [.int .i64 y189.f0, .int .i64 y189.f1, .slice A198 y189.f2.length c199]) agg24 fsz24 rfl rfl (Cl.sub (off := 0) (n := 3) hcl195 rfl)) ?_)
      obtain ⟨y202, hy203, h⟩ := bind_no h
      refine TL.cons (TL.callV (Lin := []) (args := [.agg #[.int .i64 y189.f0, .int .i64 y189.f1, .slice A198 y189.f2.length c199]]) rfl rfl rfl hbd16 rfl rfl (ih16 (a0 := y189) hr200 hl201 hy203) rfl ?_)
      rintro _ _ _ _ ⟨rfl, rfl, rfl⟩
      refine TL.cons (TO.val rfl rfl rfl (Val.assign rfl) ?_)
      refine TL.nil ?_
      refine TQ.then_ ?_
      refine TC.seq ?_
      refine TC.region ?_
      refine TL.cons (TO.val rfl rfl rfl (Val.move rfl) ?_)
      refine TL.cons (TO.val rfl rfl rfl (Val.not_ rfl) ?_)
      refine TL.nil ?_
      refine TQ.then_ ?_
      refine TC.cond_b rfl h (fun hc205 h => ?_) (fun hc205 h => ?_)
      ·
       refine TC.seq ?_
       refine TC.region ?_
       refine TL.cons (TO.val rfl rfl rfl (Val.assign rfl) ?_)
       refine TL.nil ?_
       refine TQ.then_ ?_
       refine TC.ret ?_
       refine TQ.inBR ?_
       refine TQ.thenR ?_
       refine TQ.thenR ?_
       refine TQ.inBR ?_
       refine TQ.thenR ?_
       refine TQ.thenR ?_
       obtain rfl := Option.some.inj h
       have h := ko132
       obtain rfl := Option.some.inj h
       exact TQ.fin (.inl rfl) rfl Tryd.results16 (.tmp rfl .nil) rfl (FRel.mk (Ls := []) [] 1 (Gd.le.refl _) rfl rfl rfl ⟨rfl, rfl, rfl⟩)
      ·
       refine TC.skip ?_
       refine TQ.inB ?_
       refine TQ.then_ ?_
       refine TC.region ?_
       refine TL.cons (TO.val rfl rfl rfl (Val.move rfl) ?_)
       refine TL.cons (TO.val rfl rfl rfl (Val.cmp rfl rfl run_add) ?_)
       refine TL.cons (TO.val rfl rfl rfl (Val.assign rfl) ?_)
       refine TL.nil ?_
       exact fun a W hF hO => ⟨IntKind.i64.wrap (x95 + 1), h, hF.sub ⟨rfl, rfl, trivial⟩, hO.selT (Ls := [Blk b5 [.int .i64 a0.f0, .int .i64 a0.f1, .slice A1 a0.f2.length c2] 24]) [0] 1 rfl rfl rfl⟩
     ·
      refine TC.exit ?_
      refine TQ.thenX ?_
      refine TQ.thenX ?_
      refine TQ.inBX ?_
      exact fun a W hF hO => ⟨Option.some.inj h, hF.sub trivial, hO.selT (Ls := []) [] 1 rfl rfl rfl⟩
 ·
  refine TC.region ?_
  refine TL.cons (TO.val rfl rfl rfl (Val.move rfl) ?_)
  refine TL.cons (TO.val rfl rfl rfl (Val.not_ rfl) ?_)
  refine TL.cons (TO.val rfl rfl rfl (Val.move rfl) ?_)
  refine TK.split (p := (!y6) = true) h (fun hg206 h => ?_) (fun hg206 h => ?_)
  ·
   have hk207 : (!y6) = true := hg206
   refine TL.cons (TL.not (Wt.no rfl rfl rfl hk207) rfl ?_)
   refine TL.cons (TL.not (Wt.no rfl rfl rfl hk207) rfl ?_)
   refine TL.cons (TL.not (Wt.no rfl rfl rfl hk207) rfl ?_)
   refine TL.cons (TO.val rfl rfl rfl (Val.pickY rfl hk207 rfl) ?_)
   refine TL.cons (TO.val rfl rfl rfl (Val.move rfl) ?_)
   refine TL.cons (TL.not (Wt.no rfl rfl rfl rfl) rfl ?_)
   refine TL.cons (TL.not (Wt.no rfl rfl rfl rfl) rfl ?_)
   refine TL.cons (TL.not (Wt.no rfl rfl rfl rfl) rfl ?_)
   refine TL.cons (TO.val rfl rfl rfl (Val.pickY rfl rfl rfl) ?_)
   refine TL.nil ?_
   exact fun a W hF hO => ⟨true, h, hF.sub ⟨rfl, rfl, trivial⟩, hO.selT (Ls := [Blk b5 [.int .i64 a0.f0, .int .i64 a0.f1, .slice A1 a0.f2.length c2] 24]) [0] 1 rfl rfl rfl⟩
  ·
   have hk208 : (!y6) = false := (by simpa using hg206)
   refine TL.cons (TO.val (Wt.yes rfl rfl rfl hk208) rfl rfl (Val.loadsB 0 (cs := [.int .i64 a0.f0, .int .i64 a0.f1, .slice A1 a0.f2.length c2]) agg24 fsz24 rfl rfl rfl rfl) ?_)
   obtain ⟨y209, hy210, h⟩ := bind_no h
   refine TL.cons (TL.callV (Lin := []) (args := [.agg #[.int .i64 a0.f0, .int .i64 a0.f1, .slice A1 a0.f2.length c2]]) (Wt.yes rfl rfl rfl hk208) rfl rfl hbd33 rfl rfl (swageref11_depth.calls (a0 := a0) hr3 hl4 hy210) rfl ?_)
   rintro _ _ _ _ ⟨rfl, rfl, rfl⟩
   refine TL.cons (TO.val (Wt.yes rfl rfl rfl hk208) rfl rfl (Val.cmp rfl rfl run_gtr) ?_)
   refine TL.cons (TO.val rfl rfl rfl (Val.pickN rfl hk208 rfl) ?_)
   refine TL.cons (TO.val rfl rfl rfl (Val.move rfl) ?_)
   refine TK.split (p := 100 < y209) h (fun hg211 h => ?_) (fun hg211 h => ?_)
   ·
    have hk212 : decide (100 < y209) = true := decide_eq_true hg211
    refine TL.cons (TL.not (Wt.no rfl rfl rfl hk212) rfl ?_)
    refine TL.cons (TL.not (Wt.no rfl rfl rfl hk212) rfl ?_)
    refine TL.cons (TL.not (Wt.no rfl rfl rfl hk212) rfl ?_)
    refine TL.cons (TO.val rfl rfl rfl (Val.pickY rfl hk212 rfl) ?_)
    refine TL.nil ?_
    exact fun a W hF hO => ⟨true, h, hF.sub ⟨rfl, rfl, trivial⟩, hO.selT (Ls := [Blk b5 [.int .i64 a0.f0, .int .i64 a0.f1, .slice A1 a0.f2.length c2] 24]) [0] 1 rfl rfl rfl⟩
   ·
    have hk213 : decide (100 < y209) = false := decide_eq_false hg211
    refine TL.cons (TO.val (Wt.yes rfl rfl rfl hk213) rfl rfl (Val.loadsB 0 (cs := [.int .i64 a0.f0, .int .i64 a0.f1, .slice A1 a0.f2.length c2]) agg24 fsz24 rfl rfl rfl rfl) ?_)
    obtain ⟨y214, hy215, h⟩ := bind_no h
    refine TL.cons (TL.callV (Lin := []) (args := [.agg #[.int .i64 a0.f0, .int .i64 a0.f1, .slice A1 a0.f2.length c2]]) (Wt.yes rfl rfl rfl hk213) rfl rfl hbd30 rfl rfl (swageref11_cells.calls (a0 := a0) hr3 hl4 hy215) rfl ?_)
    rintro _ _ _ _ ⟨rfl, rfl, rfl⟩
    refine TL.cons (TO.val (Wt.yes rfl rfl rfl hk213) rfl rfl (Val.cmp rfl rfl run_gtr) ?_)
    refine TL.cons (TO.val rfl rfl rfl (Val.pickN rfl hk213 rfl) ?_)
    refine TL.nil ?_
    exact fun a W hF hO => ⟨decide (1048576 < y214), h, hF.sub ⟨rfl, rfl, trivial⟩, hO.selT (Ls := [Blk b5 [.int .i64 a0.f0, .int .i64 a0.f1, .slice A1 a0.f2.length c2] 24]) [0] 1 rfl rfl rfl⟩
def swageref11_Right.fix : Nat → (S24 → Option Bool)
 | 0 => (fun _ => none)
 | n + 1 => swageref11_Right.g (swageref11_Right.fix n)
theorem swageref11_Right.fixc : ∀ k, (∀ {G : Gd} {r : Bool} {a0 : S24} {A1 : Option Addr} {c2 : Nat} (hr3 : Rd G k24 A1 a0.f2) (hl4 : a0.f2.length ≤ c2), (swageref11_Right.fix k) a0 = some r → Fn Tryd.prog 16 G [] [.agg #[.int .i64 a0.f0, .int .i64 a0.f1, .slice A1 a0.f2.length c2]] (swageref11_Right.post G r)) ∧ True
 | 0 => ⟨(by intros; contradiction), trivial⟩
 | k + 1 => by
  have ih := swageref11_Right.fixc k
  exact ⟨(by
   intro G r a0 A1 c2 hr3 hl4 h
   exact swageref11_Right.step _ ih.1 hr3 hl4 h), trivial⟩
def swageref11_Right.f (a0 : S24) : Option Bool := (swageref11_Right.fix 1000) a0
theorem swageref11_Right.calls {G : Gd} {r : Bool} {a0 : S24} {A1 : Option Addr} {c2 : Nat} (hr3 : Rd G k24 A1 a0.f2) (hl4 : a0.f2.length ≤ c2) (h : swageref11_Right.f a0 = some r) : Fn Tryd.prog 16 G [] [.agg #[.int .i64 a0.f0, .int .i64 a0.f1, .slice A1 a0.f2.length c2]] (swageref11_Right.post G r) := (swageref11_Right.fixc 1000).1 hr3 hl4 h
end Go.Proofs.YtdklnjmdaecboaaDoor.Sy
set_option linter.unusedVariables false
set_option linter.unusedSimpArgs false
set_option maxRecDepth 100000
set_option maxHeartbeats 4000000
namespace Go.Proofs.YtdklnjmdaecboaaDoor.Sy
open Go Go.RowKit Go.Proofs.YtdklnjmdaecboaaDoorW.PrintWords 
def types_Size.f (a0 : S24) : Option Int := (types_measure.f a0 100).bind fun (y6 : (Int × Bool)) => (if (!y6.2) = true then some 0 else some y6.1)
def types_Size.post (G : Gd) (r : Int) (v : Value) (G' : Gd) (Lr : List Ch) : Prop := G = G' ∧ v = .int .i64 r ∧ Lr = []
theorem types_Size.calls {G : Gd} {r : Int} {a0 : S24} {A1 : Option Addr} {c2 : Nat} (hr3 : Rd G k24 A1 a0.f2) (hl4 : a0.f2.length ≤ c2) (h : types_Size.f a0 = some r) : Fn Tryd.prog 17 G [] [.agg #[.int .i64 a0.f0, .int .i64 a0.f1, .slice A1 a0.f2.length c2]] (types_Size.post G r) := by
 refine Fn.intro (e := [(0, .agg #[.int .i64 a0.f0, .int .i64 a0.f1, .slice A1 a0.f2.length c2])]) 13 Tryd.func17 rfl Tryd.ntmps17 rfl rfl (Nat.le_of_ble_eq_true rfl) (fun L => ?_)
 unfold types_Size.f at h
 refine TC.seq ?_
 refine TC.region ?_
 refine TL.cons (TL.box (cs := [.int .i64 a0.f0, .int .i64 a0.f1, .slice A1 a0.f2.length c2]) rfl rfl rfl rfl (fun b5 => ?_))
 refine TL.cons (TO.val rfl rfl rfl (Val.assign rfl) ?_)
 refine TL.nil ?_
 refine TQ.then_ ?_
 refine TC.seq ?_
 refine TC.region ?_
 refine TL.cons (TO.val rfl rfl rfl (Val.loadsB 0 (cs := [.int .i64 a0.f0, .int .i64 a0.f1, .slice A1 a0.f2.length c2]) agg24 fsz24 rfl rfl rfl rfl) ?_)
 obtain ⟨y6, hy7, h⟩ := bind_no h
 refine TL.cons (TL.callV (Lin := []) (args := [.agg #[.int .i64 a0.f0, .int .i64 a0.f1, .slice A1 a0.f2.length c2], .int .i64 100]) rfl rfl rfl hbd31 rfl rfl (types_measure.calls (a0 := a0) (a1 := 100) hr3 hl4 hy7) rfl ?_)
 rintro _ _ _ _ ⟨rfl, rfl, rfl⟩
 refine TL.cons (TO.val rfl rfl rfl (Val.move rfl) ?_)
 refine TL.cons (TO.val rfl rfl rfl (Val.extract rfl rfl) ?_)
 refine TL.cons (TO.val rfl rfl rfl (Val.extract rfl rfl) ?_)
 refine TL.cons (TO.val rfl rfl rfl (Val.assign rfl) ?_)
 refine TL.cons (TO.val rfl rfl rfl (Val.assign rfl) ?_)
 refine TL.nil ?_
 refine TQ.then_ ?_
 refine TC.seq ?_
 refine TC.seq ?_
 refine TC.region ?_
 refine TL.cons (TO.val rfl rfl rfl (Val.move rfl) ?_)
 refine TL.cons (TO.val rfl rfl rfl (Val.not_ rfl) ?_)
 refine TL.nil ?_
 refine TQ.then_ ?_
 refine TC.cond_b rfl h (fun hc9 h => ?_) (fun hc9 h => ?_)
 ·
  refine TC.seq ?_
  refine TC.region ?_
  refine TL.cons (TO.val rfl rfl rfl (Val.assign rfl) ?_)
  refine TL.nil ?_
  refine TQ.then_ ?_
  refine TC.ret ?_
  refine TQ.thenR ?_
  obtain rfl := Option.some.inj h
  exact TQ.fin (.inl rfl) rfl Tryd.results17 (.tmp rfl .nil) rfl (FRel.mk (Ls := []) [] 1 (Gd.le.refl _) rfl rfl rfl ⟨rfl, rfl, rfl⟩)
 ·
  refine TC.skip ?_
  refine TQ.then_ ?_
  refine TC.seq ?_
  refine TC.region ?_
  refine TL.cons (TO.val rfl rfl rfl (Val.move rfl) ?_)
  refine TL.cons (TO.val rfl rfl rfl (Val.assign rfl) ?_)
  refine TL.nil ?_
  refine TQ.then_ ?_
  refine TC.ret ?_
  obtain rfl := Option.some.inj h
  exact TQ.fin (.inl rfl) rfl Tryd.results17 (.tmp rfl .nil) rfl (FRel.mk (Ls := []) [] 1 (Gd.le.refl _) rfl rfl rfl ⟨rfl, rfl, rfl⟩)
end Go.Proofs.YtdklnjmdaecboaaDoor.Sy
set_option linter.unusedVariables false
set_option linter.unusedSimpArgs false
set_option maxRecDepth 100000
set_option maxHeartbeats 4000000
namespace Go.Proofs.YtdklnjmdaecboaaDoor.Sy
open Go Go.RowKit Go.Proofs.YtdklnjmdaecboaaDoorW.PrintWords 
def swageref11_Size.f (a0 : S24) : Option Int := (swageref11_Right.f a0).bind fun (y6 : Bool) => (if (!y6) = true then some 0 else (swageref11_cells.f a0).bind fun (y10 : Int) => some y10)
def swageref11_Size.post (G : Gd) (r : Int) (v : Value) (G' : Gd) (Lr : List Ch) : Prop := G = G' ∧ v = .int .i64 r ∧ Lr = []
theorem swageref11_Size.calls {G : Gd} {r : Int} {a0 : S24} {A1 : Option Addr} {c2 : Nat} (hr3 : Rd G k24 A1 a0.f2) (hl4 : a0.f2.length ≤ c2) (h : swageref11_Size.f a0 = some r) : Fn Tryd.prog 18 G [] [.agg #[.int .i64 a0.f0, .int .i64 a0.f1, .slice A1 a0.f2.length c2]] (swageref11_Size.post G r) := by
 refine Fn.intro (e := [(0, .agg #[.int .i64 a0.f0, .int .i64 a0.f1, .slice A1 a0.f2.length c2])]) 10 Tryd.func18 rfl Tryd.ntmps18 rfl rfl (Nat.le_of_ble_eq_true rfl) (fun L => ?_)
 unfold swageref11_Size.f at h
 refine TC.seq ?_
 refine TC.region ?_
 refine TL.cons (TL.box (cs := [.int .i64 a0.f0, .int .i64 a0.f1, .slice A1 a0.f2.length c2]) rfl rfl rfl rfl (fun b5 => ?_))
 refine TL.cons (TO.val rfl rfl rfl (Val.assign rfl) ?_)
 refine TL.nil ?_
 refine TQ.then_ ?_
 refine TC.seq ?_
 refine TC.region ?_
 refine TL.cons (TO.val rfl rfl rfl (Val.loadsB 0 (cs := [.int .i64 a0.f0, .int .i64 a0.f1, .slice A1 a0.f2.length c2]) agg24 fsz24 rfl rfl rfl rfl) ?_)
 obtain ⟨y6, hy7, h⟩ := bind_no h
 refine TL.cons (TL.callV (Lin := []) (args := [.agg #[.int .i64 a0.f0, .int .i64 a0.f1, .slice A1 a0.f2.length c2]]) rfl rfl rfl hbd16 rfl rfl (swageref11_Right.calls (a0 := a0) hr3 hl4 hy7) rfl ?_)
 rintro _ _ _ _ ⟨rfl, rfl, rfl⟩
 refine TL.cons (TO.val rfl rfl rfl (Val.assign rfl) ?_)
 refine TL.nil ?_
 refine TQ.then_ ?_
 refine TC.seq ?_
 refine TC.seq ?_
 refine TC.region ?_
 refine TL.cons (TO.val rfl rfl rfl (Val.move rfl) ?_)
 refine TL.cons (TO.val rfl rfl rfl (Val.not_ rfl) ?_)
 refine TL.nil ?_
 refine TQ.then_ ?_
 refine TC.cond_b rfl h (fun hc9 h => ?_) (fun hc9 h => ?_)
 ·
  refine TC.seq ?_
  refine TC.region ?_
  refine TL.cons (TO.val rfl rfl rfl (Val.assign rfl) ?_)
  refine TL.nil ?_
  refine TQ.then_ ?_
  refine TC.ret ?_
  refine TQ.thenR ?_
  obtain rfl := Option.some.inj h
  exact TQ.fin (.inl rfl) rfl Tryd.results18 (.tmp rfl .nil) rfl (FRel.mk (Ls := []) [] 1 (Gd.le.refl _) rfl rfl rfl ⟨rfl, rfl, rfl⟩)
 ·
  refine TC.skip ?_
  refine TQ.then_ ?_
  refine TC.seq ?_
  refine TC.region ?_
  refine TL.cons (TO.val rfl rfl rfl (Val.loadsB 0 (cs := [.int .i64 a0.f0, .int .i64 a0.f1, .slice A1 a0.f2.length c2]) agg24 fsz24 rfl rfl rfl rfl) ?_)
  obtain ⟨y10, hy11, h⟩ := bind_no h
  refine TL.cons (TL.callV (Lin := []) (args := [.agg #[.int .i64 a0.f0, .int .i64 a0.f1, .slice A1 a0.f2.length c2]]) rfl rfl rfl hbd30 rfl rfl (swageref11_cells.calls (a0 := a0) hr3 hl4 hy11) rfl ?_)
  rintro _ _ _ _ ⟨rfl, rfl, rfl⟩
  refine TL.cons (TO.val rfl rfl rfl (Val.assign rfl) ?_)
  refine TL.nil ?_
  refine TQ.then_ ?_
  refine TC.ret ?_
  obtain rfl := Option.some.inj h
  exact TQ.fin (.inl rfl) rfl Tryd.results18 (.tmp rfl .nil) rfl (FRel.mk (Ls := []) [] 1 (Gd.le.refl _) rfl rfl rfl ⟨rfl, rfl, rfl⟩)
end Go.Proofs.YtdklnjmdaecboaaDoor.Sy
