/- Texts of this work, joined: SyLib, SyBld, SyKT, SyOp, SyF8, SyF50, SyF45, SyF55, SyF51, SyF80, SyF52, SyF54, SyF17, SyF49, SyF16, CcA, SyF76, SyF43. -/
import Derived.Test.YtmacdhkfgoahcaaDoorSyMM
import Derived.Sort.Grow
import Derived.Test.YtmacdhkfgoahcaaDoorShelfS
import Derived.Shelf.Strings.OnBuilder
import Derived.Lib.UnsafeStr
import Derived.Lib.AppendStr
import Derived.Test.YtmacdhkfgoahcaaDoorProg
set_option linter.unusedVariables false
set_option linter.unusedSimpArgs false
namespace Go.Proofs.YtmacdhkfgoahcaaDoor.Sy
open Go Go.RowKit Go.Proofs.YtmacdhkfgoahcaaDoorW.PrintWords Go.Sort
/-- The table of the powers of ten, as start-up lays it. -/
def Tab (G : Gd) : Prop := ∀ W, G.ok W → Lib.TabIs Tryd.prog W "internal/strconv.uint64pow10" .u64 Lib.pow10Tab
theorem Tab.up {G G' : Gd} (h : Tab G) (hle : G.le G') : Tab G' := fun W hW => h W (hle.ok hW)
theorem below_grow (w : World) (k : Nat) (os : Array Obj) : Below w.heap.size w (grow (w.drewN k) os) :=
  ⟨rfl, rfl, rfl, by first | (simp [grow]; done) | (simp [grow]; omega), fun i hi => by
    show (w.heap ++ os)[i]? = w.heap[i]?
    rw [Array.getElem?_append_left hi]⟩
/-- Decimal digits, by so many steps at most. -/
def digK : Nat → Nat → List UInt8
  | 0, _ => []
  | f + 1, u => if u < 10 then [UInt8.ofNat (48 + u)] else digK f (u / 10) ++ [UInt8.ofNat (48 + u % 10)]
theorem digK_eq : ∀ (f u : Nat), u < 10 ^ (f + 1) → digK (f + 1) u = Lib.decDigits u
  | 0, u, h => by
    have h0 : u < 10 := by simpa using h
    rw [Lib.decDigits]
    simp [digK, h0]
  | f + 1, u, h => by
    rw [digK, Lib.decDigits]
    by_cases hu : u < 10
    · rw [if_pos hu, dif_pos hu]
    · rw [if_neg hu, dif_neg hu, digK_eq f (u / 10) (by rw [Nat.pow_succ] at h; omega)]
def itoaK (n : Int) : List UInt8 := if n < 0 then 45 :: digK 20 n.natAbs else digK 20 n.toNat
theorem itoaK_eq {n : Int} (h0 : -9223372036854775808 ≤ n) (h1 : n ≤ 9223372036854775807) : itoaK n = Lib.itoa n := by
  have hp : (10 : Nat) ^ (19 + 1) = 100000000000000000000 := by decide
  have ha : n.natAbs < 10 ^ (19 + 1) := by rw [hp]; omega
  have hb : n.toNat < 10 ^ (19 + 1) := by rw [hp]; omega
  unfold itoaK Lib.itoa
  rw [digK_eq 19 _ ha, digK_eq 19 _ hb]
def strconv_Itoa.f (a0 : Int) : Option ByteArray := if -9223372036854775808 ≤ a0 ∧ a0 ≤ 9223372036854775807 then some ⟨(itoaK a0).toArray⟩ else none
def strconv_Itoa.post (G : Gd) (r : ByteArray) (v : Value) (G' : Gd) (Lr : List Ch) : Prop := G = G' ∧ v = .string r ∧ Lr = []
theorem strconv_Itoa.calls {G : Gd} {r : ByteArray} {a0 : Int} (ht : Tab G) (h : strconv_Itoa.f a0 = some r) : Fn Tryd.prog 85 G [] [.int .i64 a0] (strconv_Itoa.post G r) := fun L W hO => by
  unfold strconv_Itoa.f at h
  obtain ⟨⟨h0, h1⟩, h⟩ := ite_no h
  obtain rfl := Option.some.inj h
  refine (Tryd.strconv_Itoa a0 h0 h1 W (ht W hO.ok)).mono ?_
  rintro en W' ⟨rfl, k, os, rfl⟩
  rw [itoaK_eq h0 h1]
  exact ⟨_, G, [], rfl, Gd.le.refl _, ⟨rfl, rfl, rfl⟩, hO.below (below_grow W k os)⟩
def strings_Join.f (a0 : List ByteArray) (a1 : ByteArray) : Option ByteArray := if a0.length ≤ 140737488355328 ∧ (Lib.join (a0.map (·.data.toList)) a1.data.toList).length ≤ 140737488355328 then some ⟨(Lib.join (a0.map (·.data.toList)) a1.data.toList).toArray⟩ else none
def strings_Join.post (G : Gd) (r : ByteArray) (v : Value) (G' : Gd) (Lr : List Ch) : Prop := G = G' ∧ v = .string r ∧ Lr = []
theorem strings_Join.calls {G : Gd} {r : ByteArray} {a0 : List ByteArray} {a1 : ByteArray} {A1 : Option Addr} {c2 : Nat} (hp : Pl A1) (hr : Rd G Kd.string A1 a0) (hl : a0.length ≤ c2) (h : strings_Join.f a0 a1 = some r) : Fn Tryd.prog 84 G [] [.slice A1 a0.length c2, .string a1] (strings_Join.post G r) := fun L W hO => by
  unfold strings_Join.f at h
  obtain ⟨⟨h0, h1⟩, h⟩ := ite_no h
  obtain rfl := Option.some.inj h
  cases a0 with
  | nil =>
    refine (Tryd.strings_Join_none A1 c2 a1 W).mono ?_
    rintro en W' ⟨rfl, rfl⟩
    exact ⟨_, G, [], rfl, Gd.le.refl _, ⟨rfl, rfl, rfl⟩, hO⟩
  | cons x xs =>
    obtain ⟨ad, c, hA, _⟩ := Rd.cells hr W hO.ok 0 x rfl
    obtain ⟨bk, o, sp⟩ := ad
    obtain rfl : sp = none := hp _ hA
    subst hA
    have hcells : ∀ (j : Nat) y, (x :: xs)[j]? = some y → W.cell? ⟨bk, o + j, none⟩ = some (.string y) := fun j y hy => by
      obtain ⟨ad, c, hA, hlen, hK, hc⟩ := Rd.cells hr W hO.ok j y hy
      obtain rfl := Option.some.inj hA
      obtain rfl : c = [.string y] := hK
      have := hc 0 _ rfl
      rw [add_blk] at this
      have hz : j * Kd.string.sz + 0 = j := by show j * 1 + 0 = j; omega
      rw [hz] at this
      exact this
    have hbk : bk < W.heap.size := World.block_lt_of_cell? _ _ (hcells 0 x rfl)
    refine (Tryd.strings_Join bk o c2 (x :: xs) a1 W hcells hbk h0 hl h1).mono ?_
    rintro en W' ⟨rfl, hb⟩
    exact ⟨_, G, [], rfl, Gd.le.refl _, ⟨rfl, rfl, rfl⟩, hO.below hb⟩
end Go.Proofs.YtmacdhkfgoahcaaDoor.Sy
set_option linter.unusedVariables false
set_option linter.unusedSimpArgs false
namespace Go.Proofs.YtmacdhkfgoahcaaDoor.Sy
open Go Go.RowKit Go.Shelf Go.Proofs.YtmacdhkfgoahcaaDoorW.PrintWords
variable {P : Program} {ρ : Ren}
/-- A builder's two cells, and the bytes of its own. -/
def BAt (T U B b : Nat) (p v : Value) (s : ByteArray) (W : World) : Prop :=
  (p = .pointer none ∨ p = .pointer (some ⟨b, 0, none⟩)) ∧ W.heap[b]? = some (.cells #[p, v] T (0, 0)) ∧ W.ownsRow B U 1 v s.size (Lib.strCells s) ∧ v.ownBlock ≠ some b ∧ (v = .slice none 0 0 ∨ 0 < s.size)
theorem owns_move {W W' : World} {B U n : Nat} {v : Value} {xs : List Value} (h : W.ownsRow B U 1 v n xs) (hk : ∀ k, v.ownBlock = some k → W'.heap[k]? = W.heap[k]?) : W'.ownsRow B U 1 v n xs := by
  obtain ⟨h1, h2⟩ := h
  refine ⟨h1, h2.imp id ?_⟩
  rintro ⟨g, cap, cur, rfl, r0, r1, r2⟩
  exact ⟨g, cap, cur, rfl, r0, by rw [hk g rfl]; exact r1, r2⟩
/-- A builder as a part of memory. -/
def Bld (T U b : Nat) (s : ByteArray) : Ch where
  holds B W F := F b ∧ B ≤ b ∧ ∃ p v : Value, BAt T U B b p v s W ∧ ∀ k, v.ownBlock = some k → F k
  move hm k := by
    obtain ⟨h1, h2, p, v, ⟨a1, a2, a3, a4, a5⟩, h3⟩ := k
    have hlt : ∀ k, v.ownBlock = some k → k < _ := fun k hk => (a3.lt k hk).2
    exact ⟨h1, h2, p, v, ⟨a1, (hm b h1 (blk_lt a2)).trans a2, owns_move a3 (fun k hk => hm k (h3 k hk) (hlt k hk)), a4, a5⟩, h3⟩
  wide h k := by
    obtain ⟨h1, h2, p, v, a, h3⟩ := k
    exact ⟨h b h1, h2, p, v, a, fun k hk => h k (h3 k hk)⟩
  bound k := by
    obtain ⟨h1, h2, p, v, ⟨a1, a2, a3, a4, a5⟩, h3⟩ := k
    exact ⟨⟨h1, h2, blk_lt a2⟩, h2, p, v, ⟨a1, a2, a3, a4, a5⟩, fun k hk => ⟨h3 k hk, (a3.lt k hk).1, (a3.lt k hk).2⟩⟩
/-- What else stays as it was. -/
structure Rest (W W' : World) (b : Nat) (row : Option Nat) : Prop where
  os : W'.os = W.os
  tape : W'.tape = W.tape
  output : W'.output = W.output
  size : W.heap.size ≤ W'.heap.size
  block : ∀ k, k < W.heap.size → k ≠ b → some k ≠ row → W'.heap[k]? = W.heap[k]?
theorem setCell_heap {W : World} {b j : Nat} {cs : Array Value} {T : Nat} (v : Value) (h : W.heap[b]? = some (.cells cs T (0, 0))) : (W.setCell ⟨b, j, none⟩ v).heap[b]? = some (.cells (cs.setIfInBounds j v) T (0, 0)) := by
  simp [World.setCell, Array.getElem?_modify, h]
theorem setCell_other {W : World} {b j k : Nat} (v : Value) (h : k ≠ b) : (W.setCell ⟨b, j, none⟩ v).heap[k]? = W.heap[k]? := by
  simp only [World.setCell, Array.getElem?_modify]
  rw [if_neg (fun e => h e.symm)]
theorem setCell_rest {W : World} {b j : Nat} (v : Value) (row : Option Nat) : Rest W (W.setCell ⟨b, j, none⟩ v) b row := ⟨rfl, rfl, rfl, by simp [World.setCell], fun k _ hk _ => setCell_other v hk⟩
theorem freeze_rest {W : World} {b g : Nat} {cur : Array Value} {U : Nat} {row : Option Nat} (hg : W.heap[g]? = some (.cells cur U (0, 0))) (m : Nat) (hr : row = some g) : Rest W (W.drew.freeze ⟨g, 0, none⟩ m) b row := by
  subst hr
  unfold World.freeze
  split
  · exact ⟨rfl, rfl, rfl, Nat.le_refl _, fun _ _ _ _ => rfl⟩
  · refine ⟨rfl, rfl, rfl, by simp, fun k hk hb hn => ?_⟩
    simp only [Array.getElem?_modify]
    rw [if_neg (fun e => hn (by rw [e]))]
    rfl
/-- copyCheck, in whatever state. -/
theorem bld_check (L : Lays.n240 P ρ) (X : Builder.X72 P ρ) {U B b : Nat} {p v : Value} {s : ByteArray} {W : World} (h : BAt (ρ.t 72) U B b p v s W) :
    Calls P (ρ.f 240) #[.pointer (some ⟨b, 0, none⟩)] W fun e W' => e = .returned (.tuple #[]) ∧ BAt (ρ.t 72) U B b (.pointer (some ⟨b, 0, none⟩)) v s W' ∧ Rest W W' b none := by
  obtain ⟨hp, hb, ho, hne, hz⟩ := h
  have c0 : W.cell? ⟨b, 0, none⟩ = some p := by rw [Lib.cell_of_heap hb]; rfl
  rcases hp with rfl | rfl
  · refine (Any.Builder_copyCheck_fresh L X b W c0 (by simp [World.shape?, hb]) (Lib.frozen_of_heap hb 0)).mono ?_
    rintro e W' ⟨rfl, rfl⟩
    refine ⟨rfl, ⟨.inr rfl, by rw [setCell_heap _ hb]; rfl, owns_move ho (fun k hk => setCell_other _ (fun he => hne (by rw [hk, he]))), hne, hz⟩, setCell_rest _ _⟩
  · refine (Any.Builder_copyCheck_used L X b W c0).mono ?_
    rintro e W' ⟨rfl, rfl⟩
    exact ⟨rfl, ⟨.inr rfl, hb, ho, hne, hz⟩, ⟨rfl, rfl, rfl, Nat.le_refl _, fun _ _ _ _ => rfl⟩⟩
/-- Where a string's bytes went: into the row that was, or into a new one. -/
theorem append_at {w w' : World} {base n : Nat} {t u ty e : TypeId} {i : TypeInfo} {v v' : Value} {xs : List Value} {s : ByteArray} (ht : P.underlying t = some (.slice e)) (hu : P.underlying u = some .string) (hi : P.info? e = some i) (hz : i.zero = some (.int .u8 0)) (hsize : i.size = 1) (hby : i.bytes = 1)
    (hown : w.ownsRow base e 1 v n xs) (hl : n + s.size ≤ 140737488355328) (hr : (Builtin.append_ #[t, u] ty #[v, .string s]).run P w = .ok v' w') : v'.ownBlock = v.ownBlock ∨ v'.ownBlock = some w.heap.size := by
  have hxl : xs.length = n := by simpa using hown.1
  rcases hown.2 with ⟨rfl, rfl⟩ | ⟨g, cap, cur, rfl, _, hg, hnc, hcm, hcs, htake⟩
  · by_cases hm : s.size = 0
    · have hf := Lib.run_firstCells_string (P := P) w 1 s
      rw [hm] at hf
      simp [Builtin.append_, run_underlying ht, run_underlying hu, sizeOf, typeInfo, hi, hsize, Builtin.lenOf, hm, hf] at hr
      exact .inl (by rw [← hr.1])
    · have h2 := run_append_nil_string (P := P) w t u ty e i (.int .u8 0) ht hu hi hz s (by omega) (by omega) (by rw [hby]; omega)
      rw [h2] at hr
      injection hr with hr _
      exact .inr (by rw [← hr]; rfl)
  · have hcs' : cur.size = cap := by simpa using hcs
    by_cases hroom : n + s.size ≤ cap
    · have h2 := Lib.run_append_room_string (P := P) w t u ty e i ht hu hi hsize g n cap cur hg s hroom (by omega)
      rw [h2] at hr
      injection hr with hr _
      exact .inl (by rw [← hr]; rfl)
    · have hc : ∀ j u, xs[j]? = some u → w.cell? ((⟨g, 0, none⟩ : Addr).add j) = some u := hown.cells (g := g) rfl
      have h2 := Lib.run_append_grow_string (P := P) w t u ty e i (.int .u8 0) ht hu hi hz ⟨g, 0, none⟩ n cap xs (by rw [hsize]; simpa using hxl) hc s (by omega) (by omega) (by rw [hby]; exact growslice_fits (by omega) (by omega))
      rw [h2] at hr
      injection hr with hr _
      exact .inr (by rw [← hr]; rfl)
/-- The operation, for the walk. -/
theorem wp_append {ops : Array Oper} {rest : List Oper} {o : Oper} {a : Act} {Q : Exit → Act → World → Prop} {w : World} (hgd : o.guard = none) {sl x : Operand} {t u : TypeId} (ho : o.op = .call { callee := .builtin .append, args := #[sl, x], argTypes := #[t, u] })
    {base n : Nat} {e : TypeId} {i : TypeInfo} (ht : P.underlying t = some (.slice e)) (hu : P.underlying u = some .string) (hi : P.info? e = some i) (hz : i.zero = some (.int .u8 0)) (hsize : i.size = 1) (hby : i.bytes = 1)
    {v : Value} {xs : List Value} {s : ByteArray} (hs : a.eval sl = v) (hx : a.eval x = .string s) (hown : w.ownsRow base e 1 v n xs) (hl : n + s.size ≤ 140737488355328) (hbase : base ≤ w.heap.size)
    (h : ∀ v' w', w'.ownsRow base e 1 v' (n + s.size) (xs ++ Lib.strCells s) → w.grownBy w' v.ownBlock → (v' = .slice none 0 0 ↔ v = .slice none 0 0 ∧ s.size = 0) → (v'.ownBlock = v.ownBlock ∨ v'.ownBlock = some w.heap.size) → wpList P ops Q rest (a.put o.dst v') w') : wpList P ops Q (o :: rest) a w := by
  obtain ⟨v', w', hr, h2, h3, h4⟩ := Lib.run_append_own_string (P := P) w base t u o.type e i ht hu hi hz hsize hby v n xs hown s (by unfold maxLen; omega) hl hbase
  refine wpList_plain hgd fun K hK => ?_
  have h5 := hK _ _ (h v' w' h2 h3 h4 (append_at ht hu hi hz hsize hby hown hl hr))
  unfold Oper.wp execOp
  simp only [ho, resolve, invoke, builtin, Sem.run_bind, Sem.run_pure, Result.andThen_ok, List.map_toArray, List.map_cons, List.map_nil, hs, hx, hr]
  exact h5
theorem strCells_cat (s t : ByteArray) : Lib.strCells (cat s t) = Lib.strCells s ++ Lib.strCells t := by simp [Lib.strCells, cat]
theorem size_cat (s t : ByteArray) : (cat s t).size = s.size + t.size := by
  show ((s.data.toList ++ t.data.toList).toArray).size = s.data.size + t.data.size
  simp
set_option maxHeartbeats 2000000 in
set_option maxRecDepth 100000 in
theorem bld_write (L : Lays.n166 P ρ) (X : Builder.Extra P ρ) {B b : Nat} {p v : Value} {s t : ByteArray} {W : World} (h : BAt (ρ.t 72) (ρ.t 5) B b p v s W) (hl : s.size + t.size ≤ 140737488355328) (hB : B ≤ W.heap.size) :
    Calls P (ρ.f 166) #[.pointer (some ⟨b, 0, none⟩), .string t] W fun e W' => e = .returned (.tuple #[.int .i64 t.size, .nilIface]) ∧ ∃ v', BAt (ρ.t 72) (ρ.t 5) B b (.pointer (some ⟨b, 0, none⟩)) v' (cat s t) W' ∧ Rest W W' b v.ownBlock ∧ (v'.ownBlock = v.ownBlock ∨ ∀ k, v'.ownBlock = some k → W.heap.size ≤ k) := by
  obtain ⟨i0, hi, hz0, hz1, hz2⟩ := info_parts X.infoByte
  have mixed := L.mixed
  have t72 := L.t72; have a72 := L.a72; have z72 := L.z72; have v72 := L.v72; have u72 := run_underlying L.t72
  have t70 := L.t70; have a70 := L.a70; have z70 := L.z70; have v70 := L.v70; have u70 := run_underlying L.t70
  have t37 := L.t37; have a37 := L.a37; have z37 := L.z37; have v37 := L.v37; have u37 := run_underlying L.t37
  have t3 := L.t3; have a3 := L.a3; have z3 := L.z3; have v3 := L.v3; have u3 := run_underlying L.t3
  have t9 := L.t9; have a9 := L.a9; have z9 := L.z9; have v9 := L.v9; have u9 := run_underlying L.t9
  have t4 := L.t4; have a4 := L.a4; have z4 := L.z4; have v4 := L.v4; have u4 := run_underlying L.t4
  have t164 := L.t164; have a164 := L.a164; have z164 := L.z164; have v164 := L.v164; have u164 := run_underlying L.t164
  have t5 := X.t5; have a5 := X.a5; have z5 := X.z5; have v5 := X.v5; have u5 := run_underlying X.t5
  have e240 : ∀ args w, (callFunc (ρ.f 240) args).run P w = .ok (.enter (ρ.f 240) args) w := enters_of L.f240 (by kernel_rfl) rfl
  go_enter L.f166, Body.n166_ntmps ρ
  go_wp2_with (go_at_fn (ρ.f 240); refine (bld_check { L with } X.toX72 h).mono ?_)
  rintro e w1 ⟨rfl, ⟨_, hbk, hown, hne, hnil⟩, hr1⟩
  have c1 : w1.cell? ⟨b, 1, none⟩ = some v := by rw [Lib.cell_of_heap hbk]; rfl
  go_wp2_with (at_builtin; refine wp_append (t := ρ.t 37) (u := ρ.t 9) rfl rfl L.t37 L.t9 hi hz0 hz1 hz2 rfl rfl hown hl (by have := hr1.size; omega) ?_)
  intro v' w2 hown' hgrow hnil' hwhere
  have hb2 : w2.heap[b]? = some (.cells #[.pointer (some ⟨b, 0, none⟩), v] (ρ.t 72) (0, 0)) := by
    rw [hgrow.block b (blk_lt hbk) (fun e => hne e.symm)]
    exact hbk
  have d1 : w2.cell? ⟨b, 1, none⟩ = some v := by rw [Lib.cell_of_heap hb2]; rfl
  have f1 : w2.frozen? ⟨b, 1, none⟩ = false := Lib.frozen_of_heap hb2 1
  obtain ⟨ao, n', cap, rfl⟩ : ∃ ao n' cap, v' = .slice ao n' cap := by
    rcases hown'.2 with ⟨hv, _⟩ | ⟨g, cap, cur, hv, _⟩
    · exact ⟨_, _, _, hv⟩
    · exact ⟨_, _, _, hv⟩
  go_wp2
  go_ret2
  have hown2 : w2.ownsRow B (ρ.t 5) 1 (.slice ao n' cap) (cat s t).size (Lib.strCells (cat s t)) := by rw [size_cat, strCells_cat]; exact hown'
  have hw2 : ∀ k, (Value.slice ao n' cap).ownBlock = some k → k ≠ b := fun k hk he => by
    subst he
    rcases hown2.2 with ⟨hv, _⟩ | ⟨g, cap', cur, hv, _, hg, _⟩
    · rw [hv] at hk; simp [Value.ownBlock] at hk
    · rw [hv] at hk
      simp [Value.ownBlock] at hk
      rw [hk, hb2] at hg
      injection hg with hg
      injection hg with _ hg _
      exact X.neB5 hg
  refine ⟨rfl, .slice ao n' cap, ⟨.inr rfl, by rw [setCell_heap _ hb2]; rfl, owns_move hown2 (fun k hk => setCell_other _ (hw2 k hk)), fun he => hw2 b he rfl, ?_⟩, ?_, ?_⟩
  · by_cases hs0 : (cat s t).size = 0
    · rw [size_cat] at hs0
      have ht0 : t.size = 0 := Nat.eq_zero_of_add_eq_zero_left hs0
      have hs1 : s.size = 0 := Nat.eq_zero_of_add_eq_zero_right hs0
      refine .inl (hnil'.2 ⟨?_, ByteArray.ext (Array.eq_empty_of_size_eq_zero ht0)⟩)
      rcases hnil with h | h
      · exact h
      · rw [hs1] at h; exact absurd h (Nat.lt_irrefl _)
    · exact .inr (by omega)
  · exact ⟨(hgrow.os).trans hr1.os, (hgrow.tape).trans hr1.tape, (hgrow.output).trans hr1.output, by have := hr1.size; have := hgrow.size; simp [World.setCell]; omega, fun k hk h1 h2 => (setCell_other _ h1).trans ((hgrow.block k (by have := hr1.size; omega) h2).trans (hr1.block k hk h1 (by simp)))⟩
  · rcases hwhere with h | h
    · exact .inl h
    · exact .inr (fun k hk => by rw [h] at hk; injection hk with hk; have := hr1.size; omega)
set_option maxHeartbeats 2000000 in
set_option maxRecDepth 100000 in
theorem bld_string (L : Lays.n169 P ρ) (X : Builder.Extra P ρ) {B b : Nat} {p v : Value} {s : ByteArray} {W : World} (h : BAt (ρ.t 72) (ρ.t 5) B b p v s W) :
    Calls P (ρ.f 169) #[.pointer (some ⟨b, 0, none⟩)] W fun e W' => e = .returned (.string s) ∧ Rest W W' b v.ownBlock := by
  obtain ⟨hp, hb, hown, hne, hnil⟩ := h
  have mixed := L.mixed
  have t72 := L.t72; have a72 := L.a72; have z72 := L.z72; have v72 := L.v72; have u72 := run_underlying L.t72
  have t70 := L.t70; have a70 := L.a70; have z70 := L.z70; have v70 := L.v70; have u70 := run_underlying L.t70
  have t37 := L.t37; have a37 := L.a37; have z37 := L.z37; have v37 := L.v37; have u37 := run_underlying L.t37
  have t127 := L.t127; have a127 := L.a127; have z127 := L.z127; have v127 := L.v127; have u127 := run_underlying L.t127
  have t3 := L.t3; have a3 := L.a3; have z3 := L.z3; have v3 := L.v3; have u3 := run_underlying L.t3
  have t9 := L.t9; have a9 := L.a9; have z9 := L.z9; have v9 := L.v9; have u9 := run_underlying L.t9
  have t5 := X.t5; have a5 := X.a5; have z5 := X.z5; have v5 := X.v5; have u5 := run_underlying X.t5
  rcases hown.2 with ⟨rfl, h0⟩ | ⟨g, cap, cur, rfl, _, hg, hnc, hcm, hcs, htake⟩
  · have hs : s = .empty := by
      apply ByteArray.ext; apply Array.eq_empty_of_size_eq_zero; exact h0
    subst hs
    have c1 : W.drew.cell? ⟨b, 1, none⟩ = some (.slice none 0 0) := by
      have : W.drew.heap[b]? = some (.cells #[p, .slice none 0 0] (ρ.t 72) (0, 0)) := hb
      rw [Lib.cell_of_heap this]; rfl
    have hSD : (Builtin.unsafeSliceData_ #[(ρ.t 37)] (ρ.t 127) #[.slice none 0 0]).run P W.drew = .ok (.pointer none) W.drew := Lib.run_unsafeSliceData_nil _ _ _ _ _
    have hUS : (Builtin.unsafeString_ #[(ρ.t 127), (ρ.t 3)] (ρ.t 9) #[.pointer none, .int .i64 0]).run P W.drew = .ok (.string .empty) W.drew := Lib.run_unsafeString_none _ _ _ _ _
    go_enter L.f169, Body.n169_ntmps ρ
    go_wp2
    go_region_o
    all_goals (go_wp2; go_ret; exact ⟨rfl, ⟨rfl, rfl, rfl, Nat.le_refl _, fun _ _ _ _ => rfl⟩⟩)
  · have hpos : 0 < s.size := by
      rcases hnil with h | h
      · injection h with h _ _; cases h
      · exact h
    have hsl : s.data.toList.length = s.size := by rw [Array.length_toList]; rfl
    have h0 : s.data.toList ≠ [] := fun e => by rw [e] at hsl; simp at hsl; omega
    have hcs' : cur.size = cap := by simpa using hcs
    have hcells : ∀ j u, (Lib.strCells s)[j]? = some u → W.cell? ((⟨g, 0, none⟩ : Addr).add j) = some u := hown.cells (g := g) rfl
    have c1 : W.drew.cell? ⟨b, 1, none⟩ = some (.slice (some ⟨g, 0, none⟩) s.size cap) := by
      have : W.drew.heap[b]? = some (.cells #[p, .slice (some ⟨g, 0, none⟩) s.size cap] (ρ.t 72) (0, 0)) := hb
      rw [Lib.cell_of_heap this]; rfl
    have hSD : (Builtin.unsafeSliceData_ #[(ρ.t 37)] (ρ.t 127) #[.slice (some ⟨g, 0, none⟩) s.size cap]).run P W.drew = .ok (.pointer (some ⟨g, 0, none⟩)) W.drew :=
      Lib.run_unsafeSliceData_row _ _ _ _ _ _ (by omega)
    have hUS : (Builtin.unsafeString_ #[(ρ.t 127), (ρ.t 3)] (ρ.t 9) #[.pointer (some ⟨g, 0, none⟩), .int .i64 s.size]).run P W.drew = .ok (.string s) (W.drew.freeze ⟨g, 0, none⟩ s.size) := by
      have h1 := Lib.run_unsafeString_row W.drew (ρ.t 127) (ρ.t 3) (ρ.t 9) (ρ.t 5) L.t127 X.cellsByte g cur.size (by have hg' : W.drew.heap[g]? = some (.cells cur (ρ.t 5) (0, 0)) := hg; simp [World.shape?, hg']) s.data.toList h0 (by omega) (by unfold maxLen at hcm; omega) (fun j x hx => hcells j (.int .u8 x.toNat) (by simp only [Lib.strCells, List.getElem?_map, hx, Option.map_some]))
      rw [hsl] at h1
      exact h1
    go_enter L.f169, Body.n169_ntmps ρ
    go_wp2
    go_region_o
    all_goals (go_wp2; go_ret; exact ⟨rfl, freeze_rest hg _ rfl⟩)
/-- WriteString. -/
theorem Bld.write (L : Lays.n166 P ρ) (X : Builder.Extra P ρ) {G : Gd} {b : Nat} {s t : ByteArray} (hl : s.size + t.size ≤ 140737488355328) :
    Fn P (ρ.f 166) G [Bld (ρ.t 72) (ρ.t 5) b s] [.pointer (some ⟨b, 0, none⟩), .string t] (fun v G' Lr => G = G' ∧ v = .tuple #[.int .i64 t.size, .nilIface] ∧ Lr = [Bld (ρ.t 72) (ρ.t 5) b (cat s t)]) := fun L0 W hO => by
  obtain ⟨_, hB, _, _, _, fp, ha, _⟩ := id hO
  obtain ⟨_, _, p, v, hA, _⟩ := ha 0 _ rfl
  refine (bld_write L X hA hl hB).mono ?_
  rintro e W' ⟨rfl, v', hA', hR, hat⟩
  refine ⟨_, G, [Bld (ρ.t 72) (ρ.t 5) b (cat s t)], rfl, Gd.le.refl _, ⟨rfl, rfl, rfl⟩, ?_⟩
  refine hO.step 0 rfl rfl hR.os hR.tape hR.output hR.size (fun F hF hh => ?_)
  obtain ⟨h1, h2, p2, v2, hA2, h3⟩ := hh
  obtain rfl : v2 = v := by
    have := hA2.2.1.symm.trans hA.2.1
    injection this with this
    injection this with this _ _
    have := congrArg (fun a : Array Value => a[1]?) this
    simpa using this
  refine ⟨⟨.inl h1, h2, _, v', hA', fun k hk => ?_⟩, fun k hk hn => hR.block k hk (fun e => hn (e ▸ h1)) (fun e => hn (h3 k e.symm))⟩
  rcases hat with hat | hat
  · exact .inl (h3 k (hat ▸ hk))
  · exact .inr (hat k hk)
/-- String: the last look. -/
theorem Bld.string (L : Lays.n169 P ρ) (X : Builder.Extra P ρ) {G : Gd} {b : Nat} {s : ByteArray} :
    Fn P (ρ.f 169) G [Bld (ρ.t 72) (ρ.t 5) b s] [.pointer (some ⟨b, 0, none⟩)] (fun v G' Lr => G = G' ∧ v = .string s ∧ Lr = []) := fun L0 W hO => by
  obtain ⟨_, _, _, _, _, fp, ha, _⟩ := id hO
  obtain ⟨_, _, p, v, hA, _⟩ := ha 0 _ rfl
  refine (bld_string L X hA).mono ?_
  rintro e W' ⟨rfl, hR⟩
  refine ⟨_, G, [], rfl, Gd.le.refl _, ⟨rfl, rfl, rfl⟩, ?_⟩
  have h2 : Own G (Emp :: L0) W' := by
    refine hO.step 0 rfl rfl hR.os hR.tape hR.output hR.size (fun F hF hh => ?_)
    obtain ⟨h1, h2, p2, v2, hA2, h3⟩ := hh
    obtain rfl : v2 = v := by
      have := hA2.2.1.symm.trans hA.2.1
      injection this with this
      injection this with this _ _
      have := congrArg (fun a : Array Value => a[1]?) this
      simpa using this
    exact ⟨trivial, fun k hk hn => hR.block k hk (fun e => hn (e ▸ h1)) (fun e => hn (h3 k e.symm))⟩
  exact h2.selT (Ls := []) [] 1 rfl rfl rfl
/-- A builder's zero cells are a builder that holds nothing. -/
theorem Bld.new {T U b : Nat} (B : Nat) (W : World) (F : Nat → Prop) (h : (Blk b [.pointer none, .slice none 0 0] T).holds B W F) : (Bld T U b ⟨#[]⟩).holds B W F :=
  ⟨h.1, h.2.1, _, _, ⟨.inl rfl, h.2.2, World.ownsRow_nil _ _ _ _, by simp [Value.ownBlock], .inl rfl⟩, fun k hk => by simp [Value.ownBlock] at hk⟩
theorem builder_write {G : Gd} {b : Nat} {s t : ByteArray} (hl : s.size + t.size ≤ 140737488355328) : Fn Tryd.prog 63 G [Bld 83 5 b s] [.pointer (some ⟨b, 0, none⟩), .string t] (fun v G' Lr => G = G' ∧ v = .tuple #[.int .i64 t.size, .nilIface] ∧ Lr = [Bld 83 5 b (cat s t)]) :=
  Bld.write (P := Tryd.prog) (ρ := Tryd.lays156_ren) { Tryd.lays156 with } Tryd.Builder_Extra_156 hl
theorem builder_string {G : Gd} {b : Nat} {s : ByteArray} : Fn Tryd.prog 69 G [Bld 83 5 b s] [.pointer (some ⟨b, 0, none⟩)] (fun v G' Lr => G = G' ∧ v = .string s ∧ Lr = []) :=
  Bld.string (P := Tryd.prog) (ρ := Tryd.lays156_ren) { Tryd.lays156 with } Tryd.Builder_Extra_156
end Go.Proofs.YtmacdhkfgoahcaaDoor.Sy
set_option linter.unusedVariables false
set_option linter.unusedSimpArgs false
set_option maxRecDepth 100000
set_option maxHeartbeats 4000000
namespace Go.Proofs.YtmacdhkfgoahcaaDoor.Sy
open Go Go.RowKit Go.Proofs.YtmacdhkfgoahcaaDoorW.PrintWords 
/-! #### struct type 40 -/
structure S40 where
 f0 : Int
 f1 : Int
 f2 : Int
 f3 : Int
 f4 : Int
 f5 : (List Int)
def z40 : S40 := ⟨(0 : Int), (0 : Int), (0 : Int), (0 : Int), (0 : Int), ([] : List Int)⟩
def k40 : Kd S40 := Kd.iso (Kd.pair (Kd.int .i64) (Kd.pair (Kd.int .i64) (Kd.pair (Kd.int .i64) (Kd.pair (Kd.int .i64) (Kd.pair (Kd.int .i64) (Kd.slice 3 (Kd.int .i64))))))) (fun x : S40 => (x.f0, x.f1, x.f2, x.f3, x.f4, x.f5))
theorem k40_open {w : World} {x : S40} {cs : List Value} (h : k40.K w x cs) : ∃ A5 c5, cs = [.int .i64 x.f0, .int .i64 x.f1, .int .i64 x.f2, .int .i64 x.f3, .int .i64 x.f4, .slice A5 x.f5.length c5] ∧ x.f5.length ≤ c5 ∧ (Kd.int .i64).C w A5 x.f5.length x.f5 := by
 obtain ⟨_, _, rfl, rfl, ⟨_, _, rfl, rfl, ⟨_, _, rfl, rfl, ⟨_, _, rfl, rfl, ⟨_, _, rfl, rfl, ⟨A5, c5, rfl, l5, g5⟩⟩⟩⟩⟩⟩ := h
 exact ⟨A5, c5, rfl, l5, g5⟩
theorem k40_openM {w : World} {base : Nat} {ok : Nat → Prop} {x : S40} {cs : List Value} (h : k40.M w base ok x cs) : ∃ v5, cs = [.int .i64 x.f0, .int .i64 x.f1, .int .i64 x.f2, .int .i64 x.f3, .int .i64 x.f4, v5] ∧ (Kd.int .i64).R 3 w base ok v5 x.f5 := by
 obtain ⟨_, _, rfl, rfl, ⟨_, _, rfl, rfl, ⟨_, _, rfl, rfl, ⟨_, _, rfl, rfl, ⟨_, _, rfl, rfl, ⟨v5, rfl, g5⟩⟩⟩⟩⟩⟩ := h
 exact ⟨v5, rfl, g5⟩
theorem k40_mk (w : World) (x : S40) {A5 : Option Addr} {c5 : Nat} (l5 : x.f5.length ≤ c5) (g5 : (Kd.int .i64).C w A5 x.f5.length x.f5) : k40.K w x [.int .i64 x.f0, .int .i64 x.f1, .int .i64 x.f2, .int .i64 x.f3, .int .i64 x.f4, .slice A5 x.f5.length c5] := ⟨[.int .i64 x.f0], [.int .i64 x.f1, .int .i64 x.f2, .int .i64 x.f3, .int .i64 x.f4, .slice A5 x.f5.length c5], rfl, rfl, ⟨[.int .i64 x.f1], [.int .i64 x.f2, .int .i64 x.f3, .int .i64 x.f4, .slice A5 x.f5.length c5], rfl, rfl, ⟨[.int .i64 x.f2], [.int .i64 x.f3, .int .i64 x.f4, .slice A5 x.f5.length c5], rfl, rfl, ⟨[.int .i64 x.f3], [.int .i64 x.f4, .slice A5 x.f5.length c5], rfl, rfl, ⟨[.int .i64 x.f4], [.slice A5 x.f5.length c5], rfl, rfl, ⟨A5, c5, rfl, l5, g5⟩⟩⟩⟩⟩⟩
theorem k40_mkM (w : World) (base : Nat) (ok : Nat → Prop) (x : S40) {v5 : Value} (g5 : (Kd.int .i64).R 3 w base ok v5 x.f5) : k40.M w base ok x [.int .i64 x.f0, .int .i64 x.f1, .int .i64 x.f2, .int .i64 x.f3, .int .i64 x.f4, v5] := ⟨[.int .i64 x.f0], [.int .i64 x.f1, .int .i64 x.f2, .int .i64 x.f3, .int .i64 x.f4, v5], rfl, rfl, ⟨[.int .i64 x.f1], [.int .i64 x.f2, .int .i64 x.f3, .int .i64 x.f4, v5], rfl, rfl, ⟨[.int .i64 x.f2], [.int .i64 x.f3, .int .i64 x.f4, v5], rfl, rfl, ⟨[.int .i64 x.f3], [.int .i64 x.f4, v5], rfl, rfl, ⟨[.int .i64 x.f4], [v5], rfl, rfl, ⟨v5, rfl, g5⟩⟩⟩⟩⟩⟩
def rd_T40 (xs : List S40) (i : Int) : S40 := xs.getD i.toNat z40
theorem at_T40 {w : World} {A : Option Addr} {n : Nat} {xs : List S40} (h : Kd.C k40 w A n xs) (i : Int) (h0 : 0 ≤ i) (h1 : i < n) : ∃ ad A5 c5, A = some ad ∧ w.cell? (ad.add (i.toNat * 6)) = some (.int .i64 (rd_T40 xs i).f0) ∧ w.cell? ⟨(ad.add (i.toNat * 6)).block, (ad.add (i.toNat * 6)).off + 1, none⟩ = some (.int .i64 (rd_T40 xs i).f1) ∧ w.cell? ⟨(ad.add (i.toNat * 6)).block, (ad.add (i.toNat * 6)).off + 2, none⟩ = some (.int .i64 (rd_T40 xs i).f2) ∧ w.cell? ⟨(ad.add (i.toNat * 6)).block, (ad.add (i.toNat * 6)).off + 3, none⟩ = some (.int .i64 (rd_T40 xs i).f3) ∧ w.cell? ⟨(ad.add (i.toNat * 6)).block, (ad.add (i.toNat * 6)).off + 4, none⟩ = some (.int .i64 (rd_T40 xs i).f4) ∧ w.cell? ⟨(ad.add (i.toNat * 6)).block, (ad.add (i.toNat * 6)).off + 5, none⟩ = some (.slice A5 (rd_T40 xs i).f5.length c5) ∧ (rd_T40 xs i).f5.length ≤ c5 ∧ (Kd.int .i64).C w A5 (rd_T40 xs i).f5.length (rd_T40 xs i).f5 := by
 obtain ⟨ad, c, e, _, hK, hc0⟩ := Kd.C_get h z40 i h0 h1
 have hc : ∀ j u, c[j]? = some u → w.cell? (ad.add (i.toNat * 6 + j)) = some u := hc0
 obtain ⟨A5, c5, rfl, l5, g5⟩ := k40_open hK
 exact ⟨ad, A5, c5, e, hc 0 _ rfl, by rw [← add_field _ _ 1 (by omega)]; exact hc 1 _ rfl, by rw [← add_field _ _ 2 (by omega)]; exact hc 2 _ rfl, by rw [← add_field _ _ 3 (by omega)]; exact hc 3 _ rfl, by rw [← add_field _ _ 4 (by omega)]; exact hc 4 _ rfl, by rw [← add_field _ _ 5 (by omega)]; exact hc 5 _ rfl, l5, g5⟩


/-! #### struct type 35 -/
structure S35 where
 f0 : Int
 f1 : Int
 f2 : Int
 f3 : Int
def z35 : S35 := ⟨(0 : Int), (0 : Int), (0 : Int), (0 : Int)⟩
def k35 : Kd S35 := Kd.iso (Kd.pair (Kd.int .i64) (Kd.pair (Kd.int .i64) (Kd.pair (Kd.int .i64) (Kd.int .i64)))) (fun x : S35 => (x.f0, x.f1, x.f2, x.f3))
theorem k35_open {w : World} {x : S35} {cs : List Value} (h : k35.K w x cs) : cs = [.int .i64 x.f0, .int .i64 x.f1, .int .i64 x.f2, .int .i64 x.f3] := by
 obtain ⟨_, _, rfl, rfl, ⟨_, _, rfl, rfl, ⟨_, _, rfl, rfl, rfl⟩⟩⟩ := h
 exact rfl
theorem k35_openM {w : World} {base : Nat} {ok : Nat → Prop} {x : S35} {cs : List Value} (h : k35.M w base ok x cs) : cs = [.int .i64 x.f0, .int .i64 x.f1, .int .i64 x.f2, .int .i64 x.f3] := by
 obtain ⟨_, _, rfl, rfl, ⟨_, _, rfl, rfl, ⟨_, _, rfl, rfl, rfl⟩⟩⟩ := h
 exact rfl
theorem k35_mk (w : World) (x : S35)  : k35.K w x [.int .i64 x.f0, .int .i64 x.f1, .int .i64 x.f2, .int .i64 x.f3] := ⟨[.int .i64 x.f0], [.int .i64 x.f1, .int .i64 x.f2, .int .i64 x.f3], rfl, rfl, ⟨[.int .i64 x.f1], [.int .i64 x.f2, .int .i64 x.f3], rfl, rfl, ⟨[.int .i64 x.f2], [.int .i64 x.f3], rfl, rfl, rfl⟩⟩⟩
theorem k35_mkM (w : World) (base : Nat) (ok : Nat → Prop) (x : S35)  : k35.M w base ok x [.int .i64 x.f0, .int .i64 x.f1, .int .i64 x.f2, .int .i64 x.f3] := ⟨[.int .i64 x.f0], [.int .i64 x.f1, .int .i64 x.f2, .int .i64 x.f3], rfl, rfl, ⟨[.int .i64 x.f1], [.int .i64 x.f2, .int .i64 x.f3], rfl, rfl, ⟨[.int .i64 x.f2], [.int .i64 x.f3], rfl, rfl, rfl⟩⟩⟩
def rd_T35 (xs : List S35) (i : Int) : S35 := xs.getD i.toNat z35
theorem at_T35 {w : World} {A : Option Addr} {n : Nat} {xs : List S35} (h : Kd.C k35 w A n xs) (i : Int) (h0 : 0 ≤ i) (h1 : i < n) : ∃ ad , A = some ad ∧ w.cell? (ad.add (i.toNat * 4)) = some (.int .i64 (rd_T35 xs i).f0) ∧ w.cell? ⟨(ad.add (i.toNat * 4)).block, (ad.add (i.toNat * 4)).off + 1, none⟩ = some (.int .i64 (rd_T35 xs i).f1) ∧ w.cell? ⟨(ad.add (i.toNat * 4)).block, (ad.add (i.toNat * 4)).off + 2, none⟩ = some (.int .i64 (rd_T35 xs i).f2) ∧ w.cell? ⟨(ad.add (i.toNat * 4)).block, (ad.add (i.toNat * 4)).off + 3, none⟩ = some (.int .i64 (rd_T35 xs i).f3) := by
 obtain ⟨ad, c, e, _, hK, hc0⟩ := Kd.C_get h z35 i h0 h1
 have hc : ∀ j u, c[j]? = some u → w.cell? (ad.add (i.toNat * 4 + j)) = some u := hc0
 obtain rfl := k35_open hK
 exact ⟨ad, e, hc 0 _ rfl, by rw [← add_field _ _ 1 (by omega)]; exact hc 1 _ rfl, by rw [← add_field _ _ 2 (by omega)]; exact hc 2 _ rfl, by rw [← add_field _ _ 3 (by omega)]; exact hc 3 _ rfl⟩


/-! #### struct type 37 -/
structure S37 where
 f0 : (List S40)
 f1 : S35
def z37 : S37 := ⟨([] : List S40), z35⟩
def k37 : Kd S37 := Kd.iso (Kd.pair (Kd.slice 40 k40) k35) (fun x : S37 => (x.f0, x.f1))
theorem k37_open {w : World} {x : S37} {cs : List Value} (h : k37.K w x cs) : ∃ A0 c0, cs = [.slice A0 x.f0.length c0, .int .i64 x.f1.f0, .int .i64 x.f1.f1, .int .i64 x.f1.f2, .int .i64 x.f1.f3] ∧ x.f0.length ≤ c0 ∧ k40.C w A0 x.f0.length x.f0 := by
 obtain ⟨_, _, rfl, ⟨A0, c0, rfl, l0, g0⟩, s1⟩ := h
 obtain rfl := k35_open s1
 exact ⟨A0, c0, rfl, l0, g0⟩
theorem k37_openM {w : World} {base : Nat} {ok : Nat → Prop} {x : S37} {cs : List Value} (h : k37.M w base ok x cs) : ∃ v0, cs = [v0, .int .i64 x.f1.f0, .int .i64 x.f1.f1, .int .i64 x.f1.f2, .int .i64 x.f1.f3] ∧ k40.R 40 w base ok v0 x.f0 := by
 obtain ⟨_, _, rfl, ⟨v0, rfl, g0⟩, s1⟩ := h
 obtain rfl := k35_openM s1
 exact ⟨v0, rfl, g0⟩
theorem k37_mk (w : World) (x : S37) {A0 : Option Addr} {c0 : Nat} (l0 : x.f0.length ≤ c0) (g0 : k40.C w A0 x.f0.length x.f0) : k37.K w x [.slice A0 x.f0.length c0, .int .i64 x.f1.f0, .int .i64 x.f1.f1, .int .i64 x.f1.f2, .int .i64 x.f1.f3] := ⟨[.slice A0 x.f0.length c0], [.int .i64 x.f1.f0, .int .i64 x.f1.f1, .int .i64 x.f1.f2, .int .i64 x.f1.f3], rfl, ⟨A0, c0, rfl, l0, g0⟩, (k35_mk w x.f1 )⟩
theorem k37_mkM (w : World) (base : Nat) (ok : Nat → Prop) (x : S37) {v0 : Value} (g0 : k40.R 40 w base ok v0 x.f0) : k37.M w base ok x [v0, .int .i64 x.f1.f0, .int .i64 x.f1.f1, .int .i64 x.f1.f2, .int .i64 x.f1.f3] := ⟨[v0], [.int .i64 x.f1.f0, .int .i64 x.f1.f1, .int .i64 x.f1.f2, .int .i64 x.f1.f3], rfl, ⟨v0, rfl, g0⟩, (k35_mkM w base ok x.f1 )⟩
def rd_T37 (xs : List S37) (i : Int) : S37 := xs.getD i.toNat z37
theorem at_T37 {w : World} {A : Option Addr} {n : Nat} {xs : List S37} (h : Kd.C k37 w A n xs) (i : Int) (h0 : 0 ≤ i) (h1 : i < n) : ∃ ad A0 c0, A = some ad ∧ w.cell? (ad.add (i.toNat * 5)) = some (.slice A0 (rd_T37 xs i).f0.length c0) ∧ w.cell? ⟨(ad.add (i.toNat * 5)).block, (ad.add (i.toNat * 5)).off + 1, none⟩ = some (.int .i64 (rd_T37 xs i).f1.f0) ∧ w.cell? ⟨(ad.add (i.toNat * 5)).block, (ad.add (i.toNat * 5)).off + 2, none⟩ = some (.int .i64 (rd_T37 xs i).f1.f1) ∧ w.cell? ⟨(ad.add (i.toNat * 5)).block, (ad.add (i.toNat * 5)).off + 3, none⟩ = some (.int .i64 (rd_T37 xs i).f1.f2) ∧ w.cell? ⟨(ad.add (i.toNat * 5)).block, (ad.add (i.toNat * 5)).off + 4, none⟩ = some (.int .i64 (rd_T37 xs i).f1.f3) ∧ (rd_T37 xs i).f0.length ≤ c0 ∧ k40.C w A0 (rd_T37 xs i).f0.length (rd_T37 xs i).f0 := by
 obtain ⟨ad, c, e, _, hK, hc0⟩ := Kd.C_get h z37 i h0 h1
 have hc : ∀ j u, c[j]? = some u → w.cell? (ad.add (i.toNat * 5 + j)) = some u := hc0
 obtain ⟨A0, c0, rfl, l0, g0⟩ := k37_open hK
 exact ⟨ad, A0, c0, e, hc 0 _ rfl, by rw [← add_field _ _ 1 (by omega)]; exact hc 1 _ rfl, by rw [← add_field _ _ 2 (by omega)]; exact hc 2 _ rfl, by rw [← add_field _ _ 3 (by omega)]; exact hc 3 _ rfl, by rw [← add_field _ _ 4 (by omega)]; exact hc 4 _ rfl, l0, g0⟩


/-! #### struct type 27 -/
structure S27 where
 f0 : Int
 f1 : (List S37)
def z27 : S27 := ⟨(0 : Int), ([] : List S37)⟩
def k27 : Kd S27 := Kd.iso (Kd.pair (Kd.int .i64) (Kd.slice 37 k37)) (fun x : S27 => (x.f0, x.f1))
theorem k27_open {w : World} {x : S27} {cs : List Value} (h : k27.K w x cs) : ∃ A1 c1, cs = [.int .i64 x.f0, .slice A1 x.f1.length c1] ∧ x.f1.length ≤ c1 ∧ k37.C w A1 x.f1.length x.f1 := by
 obtain ⟨_, _, rfl, rfl, ⟨A1, c1, rfl, l1, g1⟩⟩ := h
 exact ⟨A1, c1, rfl, l1, g1⟩
theorem k27_openM {w : World} {base : Nat} {ok : Nat → Prop} {x : S27} {cs : List Value} (h : k27.M w base ok x cs) : ∃ v1, cs = [.int .i64 x.f0, v1] ∧ k37.R 37 w base ok v1 x.f1 := by
 obtain ⟨_, _, rfl, rfl, ⟨v1, rfl, g1⟩⟩ := h
 exact ⟨v1, rfl, g1⟩
theorem k27_mk (w : World) (x : S27) {A1 : Option Addr} {c1 : Nat} (l1 : x.f1.length ≤ c1) (g1 : k37.C w A1 x.f1.length x.f1) : k27.K w x [.int .i64 x.f0, .slice A1 x.f1.length c1] := ⟨[.int .i64 x.f0], [.slice A1 x.f1.length c1], rfl, rfl, ⟨A1, c1, rfl, l1, g1⟩⟩
theorem k27_mkM (w : World) (base : Nat) (ok : Nat → Prop) (x : S27) {v1 : Value} (g1 : k37.R 37 w base ok v1 x.f1) : k27.M w base ok x [.int .i64 x.f0, v1] := ⟨[.int .i64 x.f0], [v1], rfl, rfl, ⟨v1, rfl, g1⟩⟩
def rd_T27 (xs : List S27) (i : Int) : S27 := xs.getD i.toNat z27
theorem at_T27 {w : World} {A : Option Addr} {n : Nat} {xs : List S27} (h : Kd.C k27 w A n xs) (i : Int) (h0 : 0 ≤ i) (h1 : i < n) : ∃ ad A1 c1, A = some ad ∧ w.cell? (ad.add (i.toNat * 2)) = some (.int .i64 (rd_T27 xs i).f0) ∧ w.cell? ⟨(ad.add (i.toNat * 2)).block, (ad.add (i.toNat * 2)).off + 1, none⟩ = some (.slice A1 (rd_T27 xs i).f1.length c1) ∧ (rd_T27 xs i).f1.length ≤ c1 ∧ k37.C w A1 (rd_T27 xs i).f1.length (rd_T27 xs i).f1 := by
 obtain ⟨ad, c, e, _, hK, hc0⟩ := Kd.C_get h z27 i h0 h1
 have hc : ∀ j u, c[j]? = some u → w.cell? (ad.add (i.toNat * 2 + j)) = some u := hc0
 obtain ⟨A1, c1, rfl, l1, g1⟩ := k27_open hK
 exact ⟨ad, A1, c1, e, hc 0 _ rfl, by rw [← add_field _ _ 1 (by omega)]; exact hc 1 _ rfl, l1, g1⟩


/-! #### struct type 70 -/
structure S70 where
 f0 : Bool
 f1 : Bool
 f2 : Bool
 f3 : Bool
def z70 : S70 := ⟨false, false, false, false⟩
def k70 : Kd S70 := Kd.iso (Kd.pair Kd.bool (Kd.pair Kd.bool (Kd.pair Kd.bool Kd.bool))) (fun x : S70 => (x.f0, x.f1, x.f2, x.f3))
theorem k70_open {w : World} {x : S70} {cs : List Value} (h : k70.K w x cs) : cs = [.bool x.f0, .bool x.f1, .bool x.f2, .bool x.f3] := by
 obtain ⟨_, _, rfl, rfl, ⟨_, _, rfl, rfl, ⟨_, _, rfl, rfl, rfl⟩⟩⟩ := h
 exact rfl
theorem k70_openM {w : World} {base : Nat} {ok : Nat → Prop} {x : S70} {cs : List Value} (h : k70.M w base ok x cs) : cs = [.bool x.f0, .bool x.f1, .bool x.f2, .bool x.f3] := by
 obtain ⟨_, _, rfl, rfl, ⟨_, _, rfl, rfl, ⟨_, _, rfl, rfl, rfl⟩⟩⟩ := h
 exact rfl
theorem k70_mk (w : World) (x : S70)  : k70.K w x [.bool x.f0, .bool x.f1, .bool x.f2, .bool x.f3] := ⟨[.bool x.f0], [.bool x.f1, .bool x.f2, .bool x.f3], rfl, rfl, ⟨[.bool x.f1], [.bool x.f2, .bool x.f3], rfl, rfl, ⟨[.bool x.f2], [.bool x.f3], rfl, rfl, rfl⟩⟩⟩
theorem k70_mkM (w : World) (base : Nat) (ok : Nat → Prop) (x : S70)  : k70.M w base ok x [.bool x.f0, .bool x.f1, .bool x.f2, .bool x.f3] := ⟨[.bool x.f0], [.bool x.f1, .bool x.f2, .bool x.f3], rfl, rfl, ⟨[.bool x.f1], [.bool x.f2, .bool x.f3], rfl, rfl, ⟨[.bool x.f2], [.bool x.f3], rfl, rfl, rfl⟩⟩⟩
def rd_T70 (xs : List S70) (i : Int) : S70 := xs.getD i.toNat z70
theorem at_T70 {w : World} {A : Option Addr} {n : Nat} {xs : List S70} (h : Kd.C k70 w A n xs) (i : Int) (h0 : 0 ≤ i) (h1 : i < n) : ∃ ad , A = some ad ∧ w.cell? (ad.add (i.toNat * 4)) = some (.bool (rd_T70 xs i).f0) ∧ w.cell? ⟨(ad.add (i.toNat * 4)).block, (ad.add (i.toNat * 4)).off + 1, none⟩ = some (.bool (rd_T70 xs i).f1) ∧ w.cell? ⟨(ad.add (i.toNat * 4)).block, (ad.add (i.toNat * 4)).off + 2, none⟩ = some (.bool (rd_T70 xs i).f2) ∧ w.cell? ⟨(ad.add (i.toNat * 4)).block, (ad.add (i.toNat * 4)).off + 3, none⟩ = some (.bool (rd_T70 xs i).f3) := by
 obtain ⟨ad, c, e, _, hK, hc0⟩ := Kd.C_get h z70 i h0 h1
 have hc : ∀ j u, c[j]? = some u → w.cell? (ad.add (i.toNat * 4 + j)) = some u := hc0
 obtain rfl := k70_open hK
 exact ⟨ad, e, hc 0 _ rfl, by rw [← add_field _ _ 1 (by omega)]; exact hc 1 _ rfl, by rw [← add_field _ _ 2 (by omega)]; exact hc 2 _ rfl, by rw [← add_field _ _ 3 (by omega)]; exact hc 3 _ rfl⟩

theorem k27_openR {G : Gd} {x : S27} {cs : List Value} (h : RdK G k27 x cs) : ∃ A1 c1, cs = [.int .i64 x.f0, .slice A1 x.f1.length c1] ∧ Rd G k37 A1 x.f1 ∧ x.f1.length ≤ c1 := by
 obtain ⟨A1, c1, rfl, l1, g1⟩ := k27_open (h G.W0 G.self)
 exact ⟨A1, c1, rfl, (fun W hW => by obtain ⟨A1', c1', he, l1', g1'⟩ := k27_open (h W hW); injection (Option.some.inj (congrArg (fun l => l[1]?) he)) with ha_ _ _; rw [ha_]; exact g1'), l1⟩
theorem k37_openR {G : Gd} {x : S37} {cs : List Value} (h : RdK G k37 x cs) : ∃ A0 c0, cs = [.slice A0 x.f0.length c0, .int .i64 x.f1.f0, .int .i64 x.f1.f1, .int .i64 x.f1.f2, .int .i64 x.f1.f3] ∧ Rd G k40 A0 x.f0 ∧ x.f0.length ≤ c0 := by
 obtain ⟨A0, c0, rfl, l0, g0⟩ := k37_open (h G.W0 G.self)
 exact ⟨A0, c0, rfl, (fun W hW => by obtain ⟨A0', c0', he, l0', g0'⟩ := k37_open (h W hW); injection (Option.some.inj (congrArg (fun l => l[0]?) he)) with ha_ _ _; rw [ha_]; exact g0'), l0⟩
theorem k40_openR {G : Gd} {x : S40} {cs : List Value} (h : RdK G k40 x cs) : ∃ A5 c5, cs = [.int .i64 x.f0, .int .i64 x.f1, .int .i64 x.f2, .int .i64 x.f3, .int .i64 x.f4, .slice A5 x.f5.length c5] ∧ Rd G (Kd.int .i64) A5 x.f5 ∧ x.f5.length ≤ c5 := by
 obtain ⟨A5, c5, rfl, l5, g5⟩ := k40_open (h G.W0 G.self)
 exact ⟨A5, c5, rfl, (fun W hW => by obtain ⟨A5', c5', he, l5', g5'⟩ := k40_open (h W hW); injection (Option.some.inj (congrArg (fun l => l[5]?) he)) with ha_ _ _; rw [ha_]; exact g5'), l5⟩
theorem agg3 : aggB Tryd.prog 3 = some false := by kernel_rfl
theorem agg4 : aggB Tryd.prog 4 = some false := by kernel_rfl
theorem agg22 : aggB Tryd.prog 22 = some false := by kernel_rfl
theorem agg25 : aggB Tryd.prog 25 = some false := by kernel_rfl
theorem agg27 : aggB Tryd.prog 27 = some true := by kernel_rfl
theorem agg33 : aggB Tryd.prog 33 = some false := by kernel_rfl
theorem agg35 : aggB Tryd.prog 35 = some true := by kernel_rfl
theorem agg37 : aggB Tryd.prog 37 = some true := by kernel_rfl
theorem agg38 : aggB Tryd.prog 38 = some false := by kernel_rfl
theorem agg40 : aggB Tryd.prog 40 = some true := by kernel_rfl
theorem agg70 : aggB Tryd.prog 70 = some true := by kernel_rfl
theorem agg97 : aggB Tryd.prog 97 = some true := by kernel_rfl
theorem bld27 : (match Tryd.prog.underlying 27 with | some (.struct fs) => fs.toList.map (fun f => (Tryd.prog.info? f.type).map (·.size)) | _ => []) = [1, 1].map some := by kernel_rfl
theorem bld35 : (match Tryd.prog.underlying 35 with | some (.struct fs) => fs.toList.map (fun f => (Tryd.prog.info? f.type).map (·.size)) | _ => []) = [1, 1, 1, 1].map some := by kernel_rfl
theorem bld37 : (match Tryd.prog.underlying 37 with | some (.struct fs) => fs.toList.map (fun f => (Tryd.prog.info? f.type).map (·.size)) | _ => []) = [1, 4].map some := by kernel_rfl
theorem bld40 : (match Tryd.prog.underlying 40 with | some (.struct fs) => fs.toList.map (fun f => (Tryd.prog.info? f.type).map (·.size)) | _ => []) = [1, 1, 1, 1, 1, 1].map some := by kernel_rfl
theorem bld70 : (match Tryd.prog.underlying 70 with | some (.struct fs) => fs.toList.map (fun f => (Tryd.prog.info? f.type).map (·.size)) | _ => []) = [1, 1, 1, 1].map some := by kernel_rfl
theorem eqg35 : Tryd.prog.eqGuardType Tryd.prog.depth 35 = false := by kernel_rfl
theorem eqg97 : Tryd.prog.eqGuardType Tryd.prog.depth 97 = false := by kernel_rfl
theorem eqs35 (d : Nat) (w : World) (x0 y0 : Int) (x1 y1 : Int) (x2 y2 : Int) (x3 y3 : Int) : (Op.equalIn (d + 2) 35 (.agg #[.int .i64 x0, .int .i64 x1, .int .i64 x2, .int .i64 x3]) (.agg #[.int .i64 y0, .int .i64 y1, .int .i64 y2, .int .i64 y3])).run Tryd.prog w = .ok ((x0 == y0) && ((x1 == y1) && ((x2 == y2) && (x3 == y3)))) w := by
 refine fld_of Tryd.underlying35 (by kernel_rfl) ?_
 refine fld_cons (by rfl) (by go_simp; rfl) (by go_simp; rfl) (by go_simp) ?_
 refine fld_cons (by rfl) (by go_simp; rfl) (by go_simp; rfl) (by go_simp) ?_
 refine fld_cons (by rfl) (by go_simp; rfl) (by go_simp; rfl) (by go_simp) ?_
 exact fld_last (by rfl) (by go_simp; rfl) (by go_simp; rfl) (by go_simp)
theorem hbd7 : hasBody Tryd.prog 7 = true := by kernel_rfl
theorem hbd8 : hasBody Tryd.prog 8 = true := by kernel_rfl
theorem hbd9 : hasBody Tryd.prog 9 = true := by kernel_rfl
theorem hbd10 : hasBody Tryd.prog 10 = true := by kernel_rfl
theorem hbd11 : hasBody Tryd.prog 11 = true := by kernel_rfl
theorem hbd12 : hasBody Tryd.prog 12 = true := by kernel_rfl
theorem hbd13 : hasBody Tryd.prog 13 = true := by kernel_rfl
theorem hbd14 : hasBody Tryd.prog 14 = true := by kernel_rfl
theorem hbd15 : hasBody Tryd.prog 15 = true := by kernel_rfl
theorem hbd16 : hasBody Tryd.prog 16 = true := by kernel_rfl
theorem hbd17 : hasBody Tryd.prog 17 = true := by kernel_rfl
theorem hbd18 : hasBody Tryd.prog 18 = true := by kernel_rfl
theorem hbd19 : hasBody Tryd.prog 19 = true := by kernel_rfl
theorem hbd20 : hasBody Tryd.prog 20 = true := by kernel_rfl
theorem hbd21 : hasBody Tryd.prog 21 = true := by kernel_rfl
theorem hbd22 : hasBody Tryd.prog 22 = true := by kernel_rfl
theorem hbd24 : hasBody Tryd.prog 24 = true := by kernel_rfl
theorem hbd28 : hasBody Tryd.prog 28 = true := by kernel_rfl
theorem hbd32 : hasBody Tryd.prog 32 = true := by kernel_rfl
theorem hbd34 : hasBody Tryd.prog 34 = true := by kernel_rfl
theorem hbd37 : hasBody Tryd.prog 37 = true := by kernel_rfl
theorem hbd38 : hasBody Tryd.prog 38 = true := by kernel_rfl
theorem hbd39 : hasBody Tryd.prog 39 = true := by kernel_rfl
theorem hbd40 : hasBody Tryd.prog 40 = true := by kernel_rfl
theorem hbd41 : hasBody Tryd.prog 41 = true := by kernel_rfl
theorem hbd42 : hasBody Tryd.prog 42 = true := by kernel_rfl
theorem hbd43 : hasBody Tryd.prog 43 = true := by kernel_rfl
theorem hbd44 : hasBody Tryd.prog 44 = true := by kernel_rfl
theorem hbd45 : hasBody Tryd.prog 45 = true := by kernel_rfl
theorem hbd46 : hasBody Tryd.prog 46 = true := by kernel_rfl
theorem hbd47 : hasBody Tryd.prog 47 = true := by kernel_rfl
theorem hbd48 : hasBody Tryd.prog 48 = true := by kernel_rfl
theorem hbd49 : hasBody Tryd.prog 49 = true := by kernel_rfl
theorem hbd50 : hasBody Tryd.prog 50 = true := by kernel_rfl
theorem hbd51 : hasBody Tryd.prog 51 = true := by kernel_rfl
theorem hbd52 : hasBody Tryd.prog 52 = true := by kernel_rfl
theorem hbd53 : hasBody Tryd.prog 53 = true := by kernel_rfl
theorem hbd54 : hasBody Tryd.prog 54 = true := by kernel_rfl
theorem hbd55 : hasBody Tryd.prog 55 = true := by kernel_rfl
theorem hbd56 : hasBody Tryd.prog 56 = true := by kernel_rfl
theorem hbd57 : hasBody Tryd.prog 57 = true := by kernel_rfl
theorem hbd58 : hasBody Tryd.prog 58 = true := by kernel_rfl
theorem hbd59 : hasBody Tryd.prog 59 = true := by kernel_rfl
theorem hbd60 : hasBody Tryd.prog 60 = true := by kernel_rfl
theorem hbd61 : hasBody Tryd.prog 61 = true := by kernel_rfl
theorem hbd62 : hasBody Tryd.prog 62 = true := by kernel_rfl
theorem hbd63 : hasBody Tryd.prog 63 = true := by kernel_rfl
theorem hbd64 : hasBody Tryd.prog 64 = true := by kernel_rfl
theorem hbd65 : hasBody Tryd.prog 65 = true := by kernel_rfl
theorem hbd66 : hasBody Tryd.prog 66 = true := by kernel_rfl
theorem hbd67 : hasBody Tryd.prog 67 = true := by kernel_rfl
theorem hbd68 : hasBody Tryd.prog 68 = true := by kernel_rfl
theorem hbd69 : hasBody Tryd.prog 69 = true := by kernel_rfl
theorem hbd76 : hasBody Tryd.prog 76 = true := by kernel_rfl
theorem hbd77 : hasBody Tryd.prog 77 = true := by kernel_rfl
theorem hbd78 : hasBody Tryd.prog 78 = true := by kernel_rfl
theorem hbd79 : hasBody Tryd.prog 79 = true := by kernel_rfl
theorem hbd80 : hasBody Tryd.prog 80 = true := by kernel_rfl
theorem hbd81 : hasBody Tryd.prog 81 = true := by kernel_rfl
theorem hbd82 : hasBody Tryd.prog 82 = true := by kernel_rfl
theorem hbd84 : hasBody Tryd.prog 84 = true := by kernel_rfl
theorem hbd85 : hasBody Tryd.prog 85 = true := by kernel_rfl
theorem hbd86 : hasBody Tryd.prog 86 = true := by kernel_rfl
theorem inf3 : (Tryd.prog.info? 3).map (fun i => (i.zero, i.size, i.bytes)) = some (some (.int .i64 0), 1, 8) := by kernel_rfl
theorem inf9 : (Tryd.prog.info? 9).map (fun i => (i.zero, i.size, i.bytes)) = some (some (.string ⟨#[]⟩), 1, 16) := by kernel_rfl
theorem inf37 : (Tryd.prog.info? 37).map (fun i => (i.zero, i.size, i.bytes)) = some (some (.agg #[.slice none 0 0, .int .i64 0, .int .i64 0, .int .i64 0, .int .i64 0]), 5, 56) := by kernel_rfl
theorem inf40 : (Tryd.prog.info? 40).map (fun i => (i.zero, i.size, i.bytes)) = some (some (.agg #[.int .i64 0, .int .i64 0, .int .i64 0, .int .i64 0, .int .i64 0, .slice none 0 0]), 6, 64) := by kernel_rfl
theorem mixed : Tryd.prog.follows .mixedOrders = true := by kernel_rfl
theorem fsz3 : (Tryd.prog.info? 3).map (·.size) = some 1 := by kernel_rfl
theorem fsz4 : (Tryd.prog.info? 4).map (·.size) = some 1 := by kernel_rfl
theorem fsz25 : (Tryd.prog.info? 25).map (·.size) = some 1 := by kernel_rfl
theorem fsz27 : (Tryd.prog.info? 27).map (·.size) = some 2 := by kernel_rfl
theorem fsz33 : (Tryd.prog.info? 33).map (·.size) = some 1 := by kernel_rfl
theorem fsz35 : (Tryd.prog.info? 35).map (·.size) = some 4 := by kernel_rfl
theorem fsz37 : (Tryd.prog.info? 37).map (·.size) = some 5 := by kernel_rfl
theorem fsz38 : (Tryd.prog.info? 38).map (·.size) = some 1 := by kernel_rfl
theorem fsz40 : (Tryd.prog.info? 40).map (·.size) = some 6 := by kernel_rfl
theorem fsz70 : (Tryd.prog.info? 70).map (·.size) = some 4 := by kernel_rfl
theorem fsz97 : (Tryd.prog.info? 97).map (·.size) = some 5 := by kernel_rfl
theorem zr3 : (Tryd.prog.info? 3).bind (·.zero) = some (.int .i64 0) := by kernel_rfl
theorem zr4 : (Tryd.prog.info? 4).bind (·.zero) = some (.bool false) := by kernel_rfl
theorem zr27 : (Tryd.prog.info? 27).bind (·.zero) = some (.agg #[.int .i64 0, .slice none 0 0]) := by kernel_rfl
theorem zr35 : (Tryd.prog.info? 35).bind (·.zero) = some (.agg #[.int .i64 0, .int .i64 0, .int .i64 0, .int .i64 0]) := by kernel_rfl
theorem zr37 : (Tryd.prog.info? 37).bind (·.zero) = some (.agg #[.slice none 0 0, .int .i64 0, .int .i64 0, .int .i64 0, .int .i64 0]) := by kernel_rfl
theorem zr40 : (Tryd.prog.info? 40).bind (·.zero) = some (.agg #[.int .i64 0, .int .i64 0, .int .i64 0, .int .i64 0, .int .i64 0, .slice none 0 0]) := by kernel_rfl
theorem zr70 : (Tryd.prog.info? 70).bind (·.zero) = some (.agg #[.bool false, .bool false, .bool false, .bool false]) := by kernel_rfl
theorem zr83 : (Tryd.prog.info? 83).bind (·.zero) = some (.agg #[.pointer none, .slice none 0 0]) := by kernel_rfl
theorem zr97 : (Tryd.prog.info? 97).bind (·.zero) = some (.agg #[.int .i64 0, .int .i64 0, .int .i64 0, .int .i64 0, .int .i64 0]) := by kernel_rfl
theorem zs3 : (Tryd.prog.info? 3).map (fun i => (i.zero, i.size)) = some (some (.int .i64 0), 1) := by kernel_rfl
theorem zs9 : (Tryd.prog.info? 9).map (fun i => (i.zero, i.size)) = some (some (.string ⟨#[]⟩), 1) := by kernel_rfl
theorem zs27 : (Tryd.prog.info? 27).map (fun i => (i.zero, i.size)) = some (some (.agg #[.int .i64 0, .slice none 0 0]), 2) := by kernel_rfl
theorem zs37 : (Tryd.prog.info? 37).map (fun i => (i.zero, i.size)) = some (some (.agg #[.slice none 0 0, .int .i64 0, .int .i64 0, .int .i64 0, .int .i64 0]), 5) := by kernel_rfl
theorem zs40 : (Tryd.prog.info? 40).map (fun i => (i.zero, i.size)) = some (some (.agg #[.int .i64 0, .int .i64 0, .int .i64 0, .int .i64 0, .int .i64 0, .slice none 0 0]), 6) := by kernel_rfl
end Go.Proofs.YtmacdhkfgoahcaaDoor.Sy
set_option linter.unusedVariables false
set_option maxRecDepth 100000
namespace Go.Proofs.YtmacdhkfgoahcaaDoor.Sy
open Go Go.RowKit Go.Proofs.YtmacdhkfgoahcaaDoorW.PrintWords Go.Proofs.YtmacdhkfgoahcaaDoor.SyO
theorem bytes38 : Tryd.prog.bytesOf 3 = 8 := by kernel_rfl
theorem bytes33 : Tryd.prog.bytesOf 40 = 64 := by kernel_rfl
theorem bytes25 : Tryd.prog.bytesOf 37 = 56 := by kernel_rfl
theorem bytes22 : Tryd.prog.bytesOf 27 = 32 := by kernel_rfl
abbrev ok40 (x : S40) : Prop := (Lit.int .i64 x.f0).wf = true ∧ (Lit.int .i64 x.f1).wf = true ∧ (Lit.int .i64 x.f2).wf = true ∧ (Lit.int .i64 x.f3).wf = true ∧ (Lit.int .i64 x.f4).wf = true ∧ (x.f5.length * 8 ≤ 140737488351232 ∧ ∀ y ∈ x.f5, (Lit.int .i64 y).wf = true)
theorem opens40 (b : Nat) : Opens b Tryd.prog 40 k40 ok40 := (Opens.struct Tryd.underlying40 (by kernel_rfl) (OpensF.cons (Opens.int Tryd.underlying3 (by kernel_rfl)) rfl (OpensF.cons (Opens.int Tryd.underlying3 (by kernel_rfl)) rfl (OpensF.cons (Opens.int Tryd.underlying3 (by kernel_rfl)) rfl (OpensF.cons (Opens.int Tryd.underlying3 (by kernel_rfl)) rfl (OpensF.cons (Opens.int Tryd.underlying3 (by kernel_rfl)) rfl (OpensF.one (((Opens.slice Tryd.underlying38 (by kernel_rfl) (Opens.int Tryd.underlying3 (by kernel_rfl))).le (Nat.le_succ _)).mono (W' := fun (l : (List Int)) => (l.length * 8 ≤ 140737488351232 ∧ ∀ y ∈ l, (Lit.int .i64 y).wf = true)) (fun l h => ⟨by have h2 := h.2.1; rw [bytes38] at h2; exact h2, h.2.2⟩)))))))) (fun x : S40 => (x.f0, x.f1, x.f2, x.f3, x.f4, x.f5)) (fun y => ⟨y.1, y.2.1, y.2.2.1, y.2.2.2.1, y.2.2.2.2.1, y.2.2.2.2.2⟩) (fun _ => rfl)).le (Nat.le_succ _)
theorem ho40 : HO k40 := HO.iso (HO.pair HO.int (HO.pair HO.int (HO.pair HO.int (HO.pair HO.int (HO.pair HO.int (HO.slice HO.int))))))
abbrev ok35 (x : S35) : Prop := (Lit.int .i64 x.f0).wf = true ∧ (Lit.int .i64 x.f1).wf = true ∧ (Lit.int .i64 x.f2).wf = true ∧ (Lit.int .i64 x.f3).wf = true
theorem opens35 (b : Nat) : Opens b Tryd.prog 35 k35 ok35 := (Opens.struct Tryd.underlying35 (by kernel_rfl) (OpensF.cons (Opens.int Tryd.underlying3 (by kernel_rfl)) rfl (OpensF.cons (Opens.int Tryd.underlying3 (by kernel_rfl)) rfl (OpensF.cons (Opens.int Tryd.underlying3 (by kernel_rfl)) rfl (OpensF.one (Opens.int Tryd.underlying3 (by kernel_rfl)))))) (fun x : S35 => (x.f0, x.f1, x.f2, x.f3)) (fun y => ⟨y.1, y.2.1, y.2.2.1, y.2.2.2⟩) (fun _ => rfl)).le (Nat.le_succ _)
theorem ho35 : HO k35 := HO.iso (HO.pair HO.int (HO.pair HO.int (HO.pair HO.int HO.int)))
abbrev ok37 (x : S37) : Prop := (x.f0.length * 64 ≤ 140737488351232 ∧ ∀ y ∈ x.f0, ok40 y) ∧ ok35 x.f1
theorem opens37 (b : Nat) : Opens b Tryd.prog 37 k37 ok37 := (Opens.struct Tryd.underlying37 (by kernel_rfl) (OpensF.cons (((Opens.slice Tryd.underlying33 (by kernel_rfl) (opens40 b)).le (Nat.le_succ _)).mono (W' := fun (l : (List S40)) => (l.length * 64 ≤ 140737488351232 ∧ ∀ y ∈ l, ok40 y)) (fun l h => ⟨by have h2 := h.2.1; rw [bytes33] at h2; exact h2, h.2.2⟩)) rfl (OpensF.one (opens35 b))) (fun x : S37 => (x.f0, x.f1)) (fun y => ⟨y.1, y.2⟩) (fun _ => rfl)).le (Nat.le_succ _)
theorem ho37 : HO k37 := HO.iso (HO.pair (HO.slice ho40) ho35)
abbrev ok27 (x : S27) : Prop := (Lit.int .i64 x.f0).wf = true ∧ (x.f1.length * 56 ≤ 140737488351232 ∧ ∀ y ∈ x.f1, ok37 y)
theorem opens27 (b : Nat) : Opens b Tryd.prog 27 k27 ok27 := (Opens.struct Tryd.underlying27 (by kernel_rfl) (OpensF.cons (Opens.int Tryd.underlying3 (by kernel_rfl)) rfl (OpensF.one (((Opens.slice Tryd.underlying25 (by kernel_rfl) (opens37 b)).le (Nat.le_succ _)).mono (W' := fun (l : (List S37)) => (l.length * 56 ≤ 140737488351232 ∧ ∀ y ∈ l, ok37 y)) (fun l h => ⟨by have h2 := h.2.1; rw [bytes25] at h2; exact h2, h.2.2⟩)))) (fun x : S27 => (x.f0, x.f1)) (fun y => ⟨y.1, y.2⟩) (fun _ => rfl)).le (Nat.le_succ _)
theorem ho27 : HO k27 := HO.iso (HO.pair HO.int (HO.slice ho37))
end Go.Proofs.YtmacdhkfgoahcaaDoor.Sy
set_option linter.unusedVariables false
set_option linter.unusedSimpArgs false
set_option maxRecDepth 100000
set_option maxHeartbeats 4000000
namespace Go.Proofs.YtmacdhkfgoahcaaDoor.Sy
open Go Go.RowKit Go.Proofs.YtmacdhkfgoahcaaDoorW.PrintWords 
def swagelaw14_Few.l1 (a0 : S27) (x821 : Int) : Nat → Int → Option (Sum (Sum Bool (Int)) (Unit))
 | 0, _ => none
 | n2230 + 1, x2136 => jn (γ := (Sum (Sum Bool (Int)) (Unit))) (fun (x2339 : Bool) => (if x2339 = true then (at? a0.f1 x821).bind fun y2371 => (at? y2371.f0 x2136).bind fun y2384 => (if 20 < (y2384.f5.length : Int) then some (.inl (.inl false)) else swagelaw14_Few.l1 a0 x821 n2230 (IntKind.i64.wrap (x2136 + 1))) else some (.inr ()))) (fun (j2340 : (Bool → Option (Sum (Sum Bool (Int)) (Unit)))) => (at? a0.f1 x821).bind fun y2399 => (if x2136 < (y2399.f0.length : Int) then j2340 (decide (x2136 < 300)) else j2340 false))
def swagelaw14_Few.l0 (a0 : S27) : Nat → Int → Int → Option (Sum Bool (Int))
 | 0, _, _ => none
 | n1230 + 1, x820, x821 => jn (γ := (Sum Bool (Int))) (fun (x1646 : Bool) => (if x1646 = true then (at? a0.f1 x821).bind fun y1938 => (swagelaw14_Few.l1 a0 x821 ((at? a0.f1 x821).elim 0 (fun vy2231 => vy2231.f0.length) + 1) 0).bind fun | .inl q_ => some q_ | .inr _ => (swagelaw14_Few.l0 a0 n1230 (IntKind.i64.wrap (x820 + (y1938.f0.length : Int))) (IntKind.i64.wrap (x821 + 1))) else some (.inr x820))) (fun (j1647 : (Bool → Option (Sum Bool (Int)))) => (if x821 < (a0.f1.length : Int) then j1647 (decide (x821 < 100)) else j1647 false))
def swagelaw14_Few.f (a0 : S27) : Option Bool := (swagelaw14_Few.l0 a0 (a0.f1.length + 1) 0 0).bind fun | .inl q_ => some q_ | .inr x1228 => (if (a0.f1.length : Int) ≤ 40 then some (decide (x1228 ≤ 250)) else some false)
def swagelaw14_Few.post (G : Gd)  (r : Bool) (v : Value) (G' : Gd) (Lr : List Ch) : Prop := G = G' ∧ v = .bool r ∧ Lr = []
theorem swagelaw14_Few.calls {G : Gd} {r : Bool} {a0 : S27} {A1 : Option Addr} {c2 : Nat} (hr3 : Rd G k37 A1 a0.f1) (hl4 : a0.f1.length ≤ c2) (h : swagelaw14_Few.f a0 = some r) : Fn Tryd.prog 8 G [] [.agg #[.int .i64 a0.f0, .slice A1 a0.f1.length c2]] (swagelaw14_Few.post G  r) := by
 refine Fn.intro (e := [(0, .agg #[.int .i64 a0.f0, .slice A1 a0.f1.length c2])]) 61 Tryd.func8 rfl Tryd.ntmps8 rfl rfl (Nat.le_of_ble_eq_true rfl) (fun L => ?_)
 unfold swagelaw14_Few.f at h
 refine TC.seq ?_
 refine TC.region ?_
 refine TL.cons (TL.box (cs := [.int .i64 a0.f0, .slice A1 a0.f1.length c2]) rfl rfl rfl rfl (fun b5 => ?_))
 refine TL.cons (TO.val rfl rfl rfl (Val.assign rfl) ?_)
 refine TL.nil ?_
 refine TQ.then_ ?_
 refine TC.seq ?_
 refine TC.region ?_
 refine TL.cons (TO.val rfl rfl rfl (Val.assign rfl) ?_)
 refine TL.nil ?_
 refine TQ.then_ ?_
 refine TC.seq ?_
 refine TC.seq ?_
 refine TC.region ?_
 refine TL.cons (TO.val rfl rfl rfl (Val.assign rfl) ?_)
 refine TL.nil ?_
 refine TQ.then_ ?_
 obtain ⟨o1229, ho1229, ko1229⟩ := bind_no h
 clear h
 refine TC.tail (fun a W => ∃ (x1228 : Int), (.inr x1228) = o1229 ∧ Fr 61 a [(1, .pointer (some ⟨b5, 0, none⟩)), (3, .int .i64 x1228)] ∧ Own G (Blk b5 [.int .i64 a0.f0, .slice A1 a0.f1.length c2] 27 :: L) W) ?_ ?_
 ·
  rintro a W ⟨x1228, rfl, hF, hO⟩
  have h := ko1229
  clear ko1229 ho1229
  refine TQ.use ?_ hF hO
  clear hF hO
  refine TQ.then_ ?_
  refine TC.seq ?_
  refine TC.region ?_
  refine TL.cons (TO.val rfl rfl rfl (Val.fieldAddrB Tryd.underlying27 rfl fsz25 rfl rfl rfl) ?_)
  refine TL.cons (TO.val rfl rfl rfl (Val.loadB 0 agg25 rfl rfl rfl) ?_)
  refine TL.cons (TO.val rfl rfl rfl (Val.len Tryd.underlying25 rfl) ?_)
  refine TL.cons (TO.val rfl rfl rfl (Val.cmp rfl rfl run_leq) ?_)
  refine TL.cons (TO.val rfl rfl rfl (Val.move rfl) ?_)
  refine TK.split (p := (a0.f1.length : Int) ≤ 40) h (fun hg1640 h => ?_) (fun hg1640 h => ?_)
  ·
   have hk1641 : decide ((a0.f1.length : Int) ≤ 40) = true := decide_eq_true hg1640
   refine TL.cons (TO.val (Wt.yes rfl rfl rfl hk1641) rfl rfl (Val.move rfl) ?_)
   refine TL.cons (TO.val (Wt.yes rfl rfl rfl hk1641) rfl rfl (Val.cmp rfl rfl run_leq) ?_)
   refine TL.cons (TO.val rfl rfl rfl (Val.pickY rfl hk1641 rfl) ?_)
   refine TL.cons (TO.val rfl rfl rfl (Val.assign rfl) ?_)
   refine TL.nil ?_
   refine TQ.then_ ?_
   refine TC.ret ?_
   obtain rfl := Option.some.inj h
   exact TQ.fin (.inl rfl) rfl Tryd.results8 (.tmp rfl .nil) rfl (FRel.mk (Ls := []) [] 1 (Gd.le.refl _) rfl rfl rfl ⟨rfl, rfl, rfl⟩)
  ·
   have hk1642 : decide ((a0.f1.length : Int) ≤ 40) = false := decide_eq_false hg1640
   refine TL.cons (TL.not (Wt.no rfl rfl rfl hk1642) rfl ?_)
   refine TL.cons (TL.not (Wt.no rfl rfl rfl hk1642) rfl ?_)
   refine TL.cons (TO.val rfl rfl rfl (Val.pickN rfl hk1642 rfl) ?_)
   refine TL.cons (TO.val rfl rfl rfl (Val.assign rfl) ?_)
   refine TL.nil ?_
   refine TQ.then_ ?_
   refine TC.ret ?_
   obtain rfl := Option.some.inj h
   exact TQ.fin (.inl rfl) rfl Tryd.results8 (.tmp rfl .nil) rfl (FRel.mk (Ls := []) [] 1 (Gd.le.refl _) rfl rfl rfl ⟨rfl, rfl, rfl⟩)
 ·
  refine TC.block ?_
  intro a W hF hO
  have hS : ∃ (x820 : Int) (x821 : Int), swagelaw14_Few.l0 a0 (a0.f1.length + 1) x820 x821 = some o1229 ∧ Fr 61 a [(1, .pointer (some ⟨b5, 0, none⟩)), (3, .int .i64 x820), (4, .int .i64 x821)] ∧ Own G (Blk b5 [.int .i64 a0.f0, .slice A1 a0.f1.length c2] 27 :: L) W := by
   exact ⟨0, 0, ho1229, hF.sub ⟨rfl, rfl, rfl, trivial⟩, hO.selT (Ls := [Blk b5 [.int .i64 a0.f0, .slice A1 a0.f1.length c2] 27]) [0] 1 rfl rfl rfl⟩
  clear hF hO ho1229
  refine TC.loop (fun n1230 a W => ∃ (x820 : Int) (x821 : Int), swagelaw14_Few.l0 a0 n1230 x820 x821 = some o1229 ∧ Fr 61 a [(1, .pointer (some ⟨b5, 0, none⟩)), (3, .int .i64 x820), (4, .int .i64 x821)] ∧ Own G (Blk b5 [.int .i64 a0.f0, .slice A1 a0.f1.length c2] 27 :: L) W) ?_ ?_ hS
  ·
   rintro a W ⟨x820, x821, h, hF, hO⟩
   exact none_no h
  ·
   clear hS
   rintro n1230 a W ⟨x820, x821, h, hF, hO⟩
   rw [swagelaw14_Few.l0] at h
   refine TC.use ?_ hF hO
   clear hF hO
   refine TC.seq ?_
   refine TC.seq ?_
   obtain ⟨j1647, hj1647, h⟩ := jn_no h
   refine TC.tail (fun a W => ∃ (x1646 : Bool), j1647 x1646 = some o1229 ∧ Fr 61 a [(1, .pointer (some ⟨b5, 0, none⟩)), (3, .int .i64 x820), (4, .int .i64 x821), (14, .bool x1646)] ∧ Own G (Blk b5 [.int .i64 a0.f0, .slice A1 a0.f1.length c2] 27 :: L) W) ?_ ?_
   ·
    rintro a W ⟨x1646, h, hF, hO⟩
    rw [hj1647] at h
    refine TQ.use ?_ hF hO
    clear hF hO
    refine TQ.then_ ?_
    refine TC.cond_b rfl h (fun hc1649 h => ?_) (fun hc1649 h => ?_)
    ·
     refine TC.skip ?_
     refine TQ.then_ ?_
     refine TC.seq ?_
     refine TC.block ?_
     refine TC.seq ?_
     refine TC.region ?_
     refine TL.cons (TO.val rfl rfl rfl (Val.move rfl) ?_)
     refine TL.cons (TO.val rfl rfl rfl (Val.fieldAddrB Tryd.underlying27 rfl fsz25 rfl rfl rfl) ?_)
     refine TL.cons (TO.val rfl rfl rfl (Val.loadB 0 agg25 rfl rfl rfl) ?_)
     refine TL.cons (TO.val rfl rfl rfl (Val.move rfl) ?_)
     obtain ⟨y1938, hx1939, h⟩ := bind_no h
     obtain ⟨ad1940, cs1946, hA1941, hi1942, hj1943, hcl1944, hK1945⟩ := Rd.at hr3 hx1939
     obtain ⟨A1947, c1948, rfl, hr1949, hl1950⟩ := k37_openR hK1945
     refine TL.cons (TO.val rfl rfl rfl (Val.indexAddr Tryd.underlying25 fsz37 rfl hA1941 rfl hi1942 hj1943) ?_)
     refine TL.cons (TO.val rfl rfl rfl (Val.fieldAddrE Tryd.underlying37 rfl fsz33 rfl rfl) ?_)
     refine TL.cons (TO.val rfl rfl rfl (Val.loadS agg33 rfl (hcl1944 0 _ rfl)) ?_)
     refine TL.cons (TO.val rfl rfl rfl (Val.len Tryd.underlying33 rfl) ?_)
     refine TL.cons (TO.val rfl rfl rfl (Val.cmp rfl rfl run_add) ?_)
     refine TL.cons (TO.val rfl rfl rfl (Val.assign rfl) ?_)
     refine TL.nil ?_
     refine TQ.then_ ?_
     refine TC.seq ?_
     refine TC.region ?_
     refine TL.cons (TO.val rfl rfl rfl (Val.assign rfl) ?_)
     refine TL.nil ?_
     refine TQ.then_ ?_
     obtain ⟨o2229, ho2229, ko2229⟩ := bind_no h
     clear h
     refine TC.tail (fun a W => (.inr ()) = o2229 ∧ Fr 61 a [(1, .pointer (some ⟨b5, 0, none⟩)), (3, .int .i64 (IntKind.i64.wrap (x820 + (y1938.f0.length : Int)))), (4, .int .i64 x821)] ∧ Own G (Blk b5 [.int .i64 a0.f0, .slice A1 a0.f1.length c2] 27 :: L) W) ?_ ?_
     ·
      rintro a W ⟨rfl, hF, hO⟩
      have h := ko2229
      clear ko2229 ho2229
      refine TQ.use ?_ hF hO
      clear hF hO
      refine TQ.inB ?_
      refine TQ.then_ ?_
      refine TC.region ?_
      refine TL.cons (TO.val rfl rfl rfl (Val.move rfl) ?_)
      refine TL.cons (TO.val rfl rfl rfl (Val.cmp rfl rfl run_add) ?_)
      refine TL.cons (TO.val rfl rfl rfl (Val.assign rfl) ?_)
      refine TL.nil ?_
      exact fun a W hF hO => ⟨IntKind.i64.wrap (x820 + (y1938.f0.length : Int)), IntKind.i64.wrap (x821 + 1), h, hF.sub ⟨rfl, rfl, rfl, trivial⟩, hO.selT (Ls := [Blk b5 [.int .i64 a0.f0, .slice A1 a0.f1.length c2] 27]) [0] 1 rfl rfl rfl⟩
     ·
      refine TC.block ?_
      intro a W hF hO
      have hS : ∃ (x2136 : Int), swagelaw14_Few.l1 a0 x821 ((at? a0.f1 x821).elim 0 (fun vy2231 => vy2231.f0.length) + 1) x2136 = some o2229 ∧ Fr 61 a [(1, .pointer (some ⟨b5, 0, none⟩)), (3, .int .i64 (IntKind.i64.wrap (x820 + (y1938.f0.length : Int)))), (4, .int .i64 x821), (5, .int .i64 x2136)] ∧ Own G (Blk b5 [.int .i64 a0.f0, .slice A1 a0.f1.length c2] 27 :: L) W := by
       exact ⟨0, ho2229, hF.sub ⟨rfl, rfl, rfl, rfl, trivial⟩, hO.selT (Ls := [Blk b5 [.int .i64 a0.f0, .slice A1 a0.f1.length c2] 27]) [0] 1 rfl rfl rfl⟩
      clear hF hO ho2229
      refine TC.loop (fun n2230 a W => ∃ (x2136 : Int), swagelaw14_Few.l1 a0 x821 n2230 x2136 = some o2229 ∧ Fr 61 a [(1, .pointer (some ⟨b5, 0, none⟩)), (3, .int .i64 (IntKind.i64.wrap (x820 + (y1938.f0.length : Int)))), (4, .int .i64 x821), (5, .int .i64 x2136)] ∧ Own G (Blk b5 [.int .i64 a0.f0, .slice A1 a0.f1.length c2] 27 :: L) W) ?_ ?_ hS
      ·
       rintro a W ⟨x2136, h, hF, hO⟩
       exact none_no h
      ·
       clear hS
       rintro n2230 a W ⟨x2136, h, hF, hO⟩
       rw [swagelaw14_Few.l1] at h
       refine TC.use ?_ hF hO
       clear hF hO
       refine TC.seq ?_
       refine TC.seq ?_
       obtain ⟨j2340, hj2340, h⟩ := jn_no h
       refine TC.tail (fun a W => ∃ (x2339 : Bool), j2340 x2339 = some o2229 ∧ Fr 61 a [(1, .pointer (some ⟨b5, 0, none⟩)), (3, .int .i64 (IntKind.i64.wrap (x820 + (y1938.f0.length : Int)))), (4, .int .i64 x821), (5, .int .i64 x2136), (38, .bool x2339)] ∧ Own G (Blk b5 [.int .i64 a0.f0, .slice A1 a0.f1.length c2] 27 :: L) W) ?_ ?_
       ·
        rintro a W ⟨x2339, h, hF, hO⟩
        rw [hj2340] at h
        refine TQ.use ?_ hF hO
        clear hF hO
        refine TQ.then_ ?_
        refine TC.cond_b rfl h (fun hc2342 h => ?_) (fun hc2342 h => ?_)
        ·
         refine TC.skip ?_
         refine TQ.then_ ?_
         refine TC.seq ?_
         refine TC.block ?_
         refine TC.seq ?_
         refine TC.region ?_
         refine TL.cons (TO.val rfl rfl rfl (Val.fieldAddrB Tryd.underlying27 rfl fsz25 rfl rfl rfl) ?_)
         refine TL.cons (TO.val rfl rfl rfl (Val.loadB 0 agg25 rfl rfl rfl) ?_)
         refine TL.cons (TO.val rfl rfl rfl (Val.move rfl) ?_)
         obtain ⟨y2371, hx2372, h⟩ := bind_no h
         obtain ⟨ad2373, cs2379, hA2374, hi2375, hj2376, hcl2377, hK2378⟩ := Rd.at hr3 hx2372
         obtain ⟨A2380, c2381, rfl, hr2382, hl2383⟩ := k37_openR hK2378
         refine TL.cons (TO.val rfl rfl rfl (Val.indexAddr Tryd.underlying25 fsz37 rfl hA2374 rfl hi2375 hj2376) ?_)
         refine TL.cons (TO.val rfl rfl rfl (Val.fieldAddrE Tryd.underlying37 rfl fsz33 rfl rfl) ?_)
         refine TL.cons (TO.val rfl rfl rfl (Val.loadS agg33 rfl (hcl2377 0 _ rfl)) ?_)
         refine TL.cons (TO.val rfl rfl rfl (Val.move rfl) ?_)
         obtain ⟨y2384, hx2385, h⟩ := bind_no h
         obtain ⟨ad2386, cs2392, hA2387, hi2388, hj2389, hcl2390, hK2391⟩ := Rd.at hr2382 hx2385
         obtain ⟨A2393, c2394, rfl, hr2395, hl2396⟩ := k40_openR hK2391
         refine TL.cons (TO.val rfl rfl rfl (Val.indexAddr Tryd.underlying33 fsz40 rfl hA2387 rfl hi2388 hj2389) ?_)
         refine TL.cons (TO.val rfl rfl rfl (Val.fieldAddrE Tryd.underlying40 rfl fsz38 rfl rfl) ?_)
         refine TL.cons (TO.val rfl rfl rfl (Val.loadS agg38 rfl (hcl2390 5 _ rfl)) ?_)
         refine TL.cons (TO.val rfl rfl rfl (Val.len Tryd.underlying38 rfl) ?_)
         refine TL.cons (TO.val rfl rfl rfl (Val.cmp rfl rfl run_gtr) ?_)
         refine TL.nil ?_
         refine TQ.then_ ?_
         refine TC.cond_p rfl h (fun hc2398 h => ?_) (fun hc2398 h => ?_)
         ·
          refine TC.seq ?_
          refine TC.region ?_
          refine TL.cons (TO.val rfl rfl rfl (Val.assign rfl) ?_)
          refine TL.nil ?_
          refine TQ.then_ ?_
          refine TC.ret ?_
          refine TQ.inBR ?_
          refine TQ.thenR ?_
          refine TQ.thenR ?_
          refine TQ.inBR ?_
          refine TQ.thenR ?_
          refine TQ.inBR ?_
          refine TQ.thenR ?_
          refine TQ.thenR ?_
          refine TQ.inBR ?_
          refine TQ.thenR ?_
          refine TQ.thenR ?_
          obtain rfl := Option.some.inj h
          have h := ko2229
          obtain rfl := Option.some.inj h
          have h := ko1229
          obtain rfl := Option.some.inj h
          exact TQ.fin (.inl rfl) rfl Tryd.results8 (.tmp rfl .nil) rfl (FRel.mk (Ls := []) [] 1 (Gd.le.refl _) rfl rfl rfl ⟨rfl, rfl, rfl⟩)
         ·
          refine TC.skip ?_
          refine TQ.inB ?_
          refine TQ.then_ ?_
          refine TC.region ?_
          refine TL.cons (TO.val rfl rfl rfl (Val.move rfl) ?_)
          refine TL.cons (TO.val rfl rfl rfl (Val.cmp rfl rfl run_add) ?_)
          refine TL.cons (TO.val rfl rfl rfl (Val.assign rfl) ?_)
          refine TL.nil ?_
          exact fun a W hF hO => ⟨IntKind.i64.wrap (x2136 + 1), h, hF.sub ⟨rfl, rfl, rfl, rfl, trivial⟩, hO.selT (Ls := [Blk b5 [.int .i64 a0.f0, .slice A1 a0.f1.length c2] 27]) [0] 1 rfl rfl rfl⟩
        ·
         refine TC.exit ?_
         refine TQ.thenX ?_
         refine TQ.thenX ?_
         refine TQ.inBX ?_
         exact fun a W hF hO => ⟨Option.some.inj h, hF.sub ⟨rfl, rfl, rfl, trivial⟩, hO.selT (Ls := [Blk b5 [.int .i64 a0.f0, .slice A1 a0.f1.length c2] 27]) [0] 1 rfl rfl rfl⟩
       ·
        refine TC.region ?_
        refine TL.cons (TO.val rfl rfl rfl (Val.move rfl) ?_)
        refine TL.cons (TO.val rfl rfl rfl (Val.fieldAddrB Tryd.underlying27 rfl fsz25 rfl rfl rfl) ?_)
        refine TL.cons (TO.val rfl rfl rfl (Val.loadB 0 agg25 rfl rfl rfl) ?_)
        refine TL.cons (TO.val rfl rfl rfl (Val.move rfl) ?_)
        obtain ⟨y2399, hx2400, h⟩ := bind_no h
        obtain ⟨ad2401, cs2407, hA2402, hi2403, hj2404, hcl2405, hK2406⟩ := Rd.at hr3 hx2400
        obtain ⟨A2408, c2409, rfl, hr2410, hl2411⟩ := k37_openR hK2406
        refine TL.cons (TO.val rfl rfl rfl (Val.indexAddr Tryd.underlying25 fsz37 rfl hA2402 rfl hi2403 hj2404) ?_)
        refine TL.cons (TO.val rfl rfl rfl (Val.fieldAddrE Tryd.underlying37 rfl fsz33 rfl rfl) ?_)
        refine TL.cons (TO.val rfl rfl rfl (Val.loadS agg33 rfl (hcl2405 0 _ rfl)) ?_)
        refine TL.cons (TO.val rfl rfl rfl (Val.len Tryd.underlying33 rfl) ?_)
        refine TL.cons (TO.val rfl rfl rfl (Val.cmp rfl rfl run_lss) ?_)
        refine TL.cons (TO.val rfl rfl rfl (Val.move rfl) ?_)
        refine TK.split (p := x2136 < (y2399.f0.length : Int)) h (fun hg2412 h => ?_) (fun hg2412 h => ?_)
        ·
         have hk2413 : decide (x2136 < (y2399.f0.length : Int)) = true := decide_eq_true hg2412
         refine TL.cons (TO.val (Wt.yes rfl rfl rfl hk2413) rfl rfl (Val.move rfl) ?_)
         refine TL.cons (TO.val (Wt.yes rfl rfl rfl hk2413) rfl rfl (Val.cmp rfl rfl run_lss) ?_)
         refine TL.cons (TO.val rfl rfl rfl (Val.pickY rfl hk2413 rfl) ?_)
         refine TL.nil ?_
         exact fun a W hF hO => ⟨decide (x2136 < 300), h, hF.sub ⟨rfl, rfl, rfl, rfl, rfl, trivial⟩, hO.selT (Ls := [Blk b5 [.int .i64 a0.f0, .slice A1 a0.f1.length c2] 27]) [0] 1 rfl rfl rfl⟩
        ·
         have hk2414 : decide (x2136 < (y2399.f0.length : Int)) = false := decide_eq_false hg2412
         refine TL.cons (TL.not (Wt.no rfl rfl rfl hk2414) rfl ?_)
         refine TL.cons (TL.not (Wt.no rfl rfl rfl hk2414) rfl ?_)
         refine TL.cons (TO.val rfl rfl rfl (Val.pickN rfl hk2414 rfl) ?_)
         refine TL.nil ?_
         exact fun a W hF hO => ⟨false, h, hF.sub ⟨rfl, rfl, rfl, rfl, rfl, trivial⟩, hO.selT (Ls := [Blk b5 [.int .i64 a0.f0, .slice A1 a0.f1.length c2] 27]) [0] 1 rfl rfl rfl⟩
    ·
     refine TC.exit ?_
     refine TQ.thenX ?_
     refine TQ.thenX ?_
     refine TQ.inBX ?_
     exact fun a W hF hO => ⟨x820, Option.some.inj h, hF.sub ⟨rfl, rfl, trivial⟩, hO.selT (Ls := [Blk b5 [.int .i64 a0.f0, .slice A1 a0.f1.length c2] 27]) [0] 1 rfl rfl rfl⟩
   ·
    refine TC.region ?_
    refine TL.cons (TO.val rfl rfl rfl (Val.move rfl) ?_)
    refine TL.cons (TO.val rfl rfl rfl (Val.fieldAddrB Tryd.underlying27 rfl fsz25 rfl rfl rfl) ?_)
    refine TL.cons (TO.val rfl rfl rfl (Val.loadB 0 agg25 rfl rfl rfl) ?_)
    refine TL.cons (TO.val rfl rfl rfl (Val.len Tryd.underlying25 rfl) ?_)
    refine TL.cons (TO.val rfl rfl rfl (Val.cmp rfl rfl run_lss) ?_)
    refine TL.cons (TO.val rfl rfl rfl (Val.move rfl) ?_)
    refine TK.split (p := x821 < (a0.f1.length : Int)) h (fun hg2415 h => ?_) (fun hg2415 h => ?_)
    ·
     have hk2416 : decide (x821 < (a0.f1.length : Int)) = true := decide_eq_true hg2415
     refine TL.cons (TO.val (Wt.yes rfl rfl rfl hk2416) rfl rfl (Val.move rfl) ?_)
     refine TL.cons (TO.val (Wt.yes rfl rfl rfl hk2416) rfl rfl (Val.cmp rfl rfl run_lss) ?_)
     refine TL.cons (TO.val rfl rfl rfl (Val.pickY rfl hk2416 rfl) ?_)
     refine TL.nil ?_
     exact fun a W hF hO => ⟨decide (x821 < 100), h, hF.sub ⟨rfl, rfl, rfl, rfl, trivial⟩, hO.selT (Ls := [Blk b5 [.int .i64 a0.f0, .slice A1 a0.f1.length c2] 27]) [0] 1 rfl rfl rfl⟩
    ·
     have hk2417 : decide (x821 < (a0.f1.length : Int)) = false := decide_eq_false hg2415
     refine TL.cons (TL.not (Wt.no rfl rfl rfl hk2417) rfl ?_)
     refine TL.cons (TL.not (Wt.no rfl rfl rfl hk2417) rfl ?_)
     refine TL.cons (TO.val rfl rfl rfl (Val.pickN rfl hk2417 rfl) ?_)
     refine TL.nil ?_
     exact fun a W hF hO => ⟨false, h, hF.sub ⟨rfl, rfl, rfl, rfl, trivial⟩, hO.selT (Ls := [Blk b5 [.int .i64 a0.f0, .slice A1 a0.f1.length c2] 27]) [0] 1 rfl rfl rfl⟩
end Go.Proofs.YtmacdhkfgoahcaaDoor.Sy
set_option linter.unusedVariables false
set_option linter.unusedSimpArgs false
set_option maxRecDepth 100000
set_option maxHeartbeats 4000000
namespace Go.Proofs.YtmacdhkfgoahcaaDoor.Sy
open Go Go.RowKit Go.Proofs.YtmacdhkfgoahcaaDoorW.PrintWords 
def code_shapeOf.f (a0 : Int) : Option (S70 × Bool) := jn (γ := (S70 × Bool)) (fun (x46 : Bool) => (if x46 = true then some ((⟨true, false, false, true⟩ : S70), true) else (if a0 = 2 then some ((⟨true, true, true, true⟩ : S70), true) else (if a0 = 3 then some ((⟨true, true, false, false⟩ : S70), true) else (if a0 = 4 then some ((⟨true, true, false, true⟩ : S70), true) else (if a0 = 5 then some ((⟨false, true, true, true⟩ : S70), true) else (if a0 = 8 then some ((⟨true, false, false, false⟩ : S70), true) else (if a0 = 9 then some ((⟨false, true, false, false⟩ : S70), true) else some ((⟨false, false, false, false⟩ : S70), false))))))))) (fun (j47 : (Bool → Option (S70 × Bool))) => (if a0 = 1 then j47 (decide (a0 = 1)) else (if a0 = 6 then j47 (decide (a0 = 6)) else j47 (decide (a0 = 7)))))
def code_shapeOf.post (G : Gd)  (r : (S70 × Bool)) (v : Value) (G' : Gd) (Lr : List Ch) : Prop := G = G' ∧ v = .tuple #[.agg #[.bool r.1.f0, .bool r.1.f1, .bool r.1.f2, .bool r.1.f3], .bool r.2] ∧ Lr = []
theorem code_shapeOf.calls {G : Gd} {r : (S70 × Bool)} {a0 : Int} (h : code_shapeOf.f a0 = some r) : Fn Tryd.prog 50 G [] [.int .i64 a0] (code_shapeOf.post G  r) := by
 refine Fn.intro (e := [(0, .int .i64 a0)]) 29 Tryd.func50 rfl Tryd.ntmps50 rfl rfl (Nat.le_of_ble_eq_true rfl) (fun L => ?_)
 unfold code_shapeOf.f at h
 refine TC.seq ?_
 refine TC.region ?_
 refine TL.cons (TL.alloc (cs := [.bool false, .bool false, .bool false, .bool false]) rfl rfl zr70 rfl (fun b1 => ?_))
 refine TL.cons (TO.val rfl rfl rfl (Val.assign rfl) ?_)
 refine TL.nil ?_
 refine TQ.then_ ?_
 refine TC.seq ?_
 refine TC.seq ?_
 refine TC.region ?_
 refine TL.cons (TO.val rfl rfl rfl (Val.move rfl) ?_)
 refine TL.nil ?_
 refine TQ.then_ ?_
 refine TC.block ?_
 refine TC.seq ?_
 refine TC.seq ?_
 refine TC.region ?_
 refine TL.cons (TO.val rfl rfl rfl (Val.cmp rfl rfl run_eql) ?_)
 refine TL.cons (TO.val rfl rfl rfl (Val.assign rfl) ?_)
 refine TL.nil ?_
 refine TQ.then_ ?_
 obtain ⟨j47, hj47, h⟩ := jn_no h
 refine TC.tail (fun a W => ∃ (x46 : Bool), j47 x46 = some r ∧ Fr 29 a [(2, .pointer (some ⟨b1, 0, none⟩)), (4, .int .i64 a0), (5, .bool x46)] ∧ Own G (Blk b1 [.bool false, .bool false, .bool false, .bool false] 70 :: L) W) ?_ ?_
 ·
  rintro a W ⟨x46, h, hF, hO⟩
  rw [hj47] at h
  refine TQ.use ?_ hF hO
  clear hF hO
  refine TQ.then_ ?_
  refine TC.cond_b rfl h (fun hc55 h => ?_) (fun hc55 h => ?_)
  ·
   refine TC.seq ?_
   refine TC.region ?_
   refine TL.cons (TO.val rfl rfl rfl (Val.build (cs := [.bool true, .bool false, .bool false, .bool true]) (is := [0, 3]) (xs := [.const (.bool true), .const (.bool true)]) Tryd.underlying70 zr70 bld70 rfl rfl rfl rfl) ?_)
   refine TL.cons (TL.store 0 (ds := [.bool true, .bool false, .bool false, .bool true]) (cs' := [.bool true, .bool false, .bool false, .bool true]) (L' := (Blk b1 [.bool true, .bool false, .bool false, .bool true] 70 :: L)) rfl fsz70 rfl rfl rfl rfl rfl (Nat.le_of_ble_eq_true rfl) rfl rfl ?_)
   refine TL.cons (TO.val rfl rfl rfl (Val.assign rfl) ?_)
   refine TL.nil ?_
   refine TQ.then_ ?_
   refine TC.ret ?_
   refine TQ.inBR ?_
   refine TQ.thenR ?_
   obtain rfl := Option.some.inj h
   exact TQ.fin (.inl rfl) rfl Tryd.results50 (.cells 0 rfl rfl agg70 fsz70 (.tmp rfl .nil)) rfl (FRel.mk (Ls := []) [] 1 (Gd.le.refl _) rfl rfl rfl ⟨rfl, rfl, rfl⟩)
  ·
   refine TC.seq ?_
   refine TC.region ?_
   refine TL.cons (TO.val rfl rfl rfl (Val.cmp rfl rfl run_eql) ?_)
   refine TL.cons (TO.val rfl rfl rfl (Val.assign rfl) ?_)
   refine TL.nil ?_
   refine TQ.then_ ?_
   refine TC.cond_p rfl h (fun hc62 h => ?_) (fun hc62 h => ?_)
   ·
    refine TC.seq ?_
    refine TC.region ?_
    refine TL.cons (TO.val rfl rfl rfl (Val.build (cs := [.bool true, .bool true, .bool true, .bool true]) (is := [0, 1, 2, 3]) (xs := [.const (.bool true), .const (.bool true), .const (.bool true), .const (.bool true)]) Tryd.underlying70 zr70 bld70 rfl rfl rfl rfl) ?_)
    refine TL.cons (TL.store 0 (ds := [.bool true, .bool true, .bool true, .bool true]) (cs' := [.bool true, .bool true, .bool true, .bool true]) (L' := (Blk b1 [.bool true, .bool true, .bool true, .bool true] 70 :: L)) rfl fsz70 rfl rfl rfl rfl rfl (Nat.le_of_ble_eq_true rfl) rfl rfl ?_)
    refine TL.cons (TO.val rfl rfl rfl (Val.assign rfl) ?_)
    refine TL.nil ?_
    refine TQ.then_ ?_
    refine TC.ret ?_
    refine TQ.inBR ?_
    refine TQ.thenR ?_
    obtain rfl := Option.some.inj h
    exact TQ.fin (.inl rfl) rfl Tryd.results50 (.cells 0 rfl rfl agg70 fsz70 (.tmp rfl .nil)) rfl (FRel.mk (Ls := []) [] 1 (Gd.le.refl _) rfl rfl rfl ⟨rfl, rfl, rfl⟩)
   ·
    refine TC.seq ?_
    refine TC.region ?_
    refine TL.cons (TO.val rfl rfl rfl (Val.cmp rfl rfl run_eql) ?_)
    refine TL.cons (TO.val rfl rfl rfl (Val.assign rfl) ?_)
    refine TL.nil ?_
    refine TQ.then_ ?_
    refine TC.cond_p rfl h (fun hc68 h => ?_) (fun hc68 h => ?_)
    ·
     refine TC.seq ?_
     refine TC.region ?_
     refine TL.cons (TO.val rfl rfl rfl (Val.build (cs := [.bool true, .bool true, .bool false, .bool false]) (is := [0, 1]) (xs := [.const (.bool true), .const (.bool true)]) Tryd.underlying70 zr70 bld70 rfl rfl rfl rfl) ?_)
     refine TL.cons (TL.store 0 (ds := [.bool true, .bool true, .bool false, .bool false]) (cs' := [.bool true, .bool true, .bool false, .bool false]) (L' := (Blk b1 [.bool true, .bool true, .bool false, .bool false] 70 :: L)) rfl fsz70 rfl rfl rfl rfl rfl (Nat.le_of_ble_eq_true rfl) rfl rfl ?_)
     refine TL.cons (TO.val rfl rfl rfl (Val.assign rfl) ?_)
     refine TL.nil ?_
     refine TQ.then_ ?_
     refine TC.ret ?_
     refine TQ.inBR ?_
     refine TQ.thenR ?_
     obtain rfl := Option.some.inj h
     exact TQ.fin (.inl rfl) rfl Tryd.results50 (.cells 0 rfl rfl agg70 fsz70 (.tmp rfl .nil)) rfl (FRel.mk (Ls := []) [] 1 (Gd.le.refl _) rfl rfl rfl ⟨rfl, rfl, rfl⟩)
    ·
     refine TC.seq ?_
     refine TC.region ?_
     refine TL.cons (TO.val rfl rfl rfl (Val.cmp rfl rfl run_eql) ?_)
     refine TL.cons (TO.val rfl rfl rfl (Val.assign rfl) ?_)
     refine TL.nil ?_
     refine TQ.then_ ?_
     refine TC.cond_p rfl h (fun hc73 h => ?_) (fun hc73 h => ?_)
     ·
      refine TC.seq ?_
      refine TC.region ?_
      refine TL.cons (TO.val rfl rfl rfl (Val.build (cs := [.bool true, .bool true, .bool false, .bool true]) (is := [0, 1, 3]) (xs := [.const (.bool true), .const (.bool true), .const (.bool true)]) Tryd.underlying70 zr70 bld70 rfl rfl rfl rfl) ?_)
      refine TL.cons (TL.store 0 (ds := [.bool true, .bool true, .bool false, .bool true]) (cs' := [.bool true, .bool true, .bool false, .bool true]) (L' := (Blk b1 [.bool true, .bool true, .bool false, .bool true] 70 :: L)) rfl fsz70 rfl rfl rfl rfl rfl (Nat.le_of_ble_eq_true rfl) rfl rfl ?_)
      refine TL.cons (TO.val rfl rfl rfl (Val.assign rfl) ?_)
      refine TL.nil ?_
      refine TQ.then_ ?_
      refine TC.ret ?_
      refine TQ.inBR ?_
      refine TQ.thenR ?_
      obtain rfl := Option.some.inj h
      exact TQ.fin (.inl rfl) rfl Tryd.results50 (.cells 0 rfl rfl agg70 fsz70 (.tmp rfl .nil)) rfl (FRel.mk (Ls := []) [] 1 (Gd.le.refl _) rfl rfl rfl ⟨rfl, rfl, rfl⟩)
     ·
      refine TC.seq ?_
      refine TC.region ?_
      refine TL.cons (TO.val rfl rfl rfl (Val.cmp rfl rfl run_eql) ?_)
      refine TL.cons (TO.val rfl rfl rfl (Val.assign rfl) ?_)
      refine TL.nil ?_
      refine TQ.then_ ?_
      refine TC.cond_p rfl h (fun hc77 h => ?_) (fun hc77 h => ?_)
      ·
       refine TC.seq ?_
       refine TC.region ?_
       refine TL.cons (TO.val rfl rfl rfl (Val.build (cs := [.bool false, .bool true, .bool true, .bool true]) (is := [1, 2, 3]) (xs := [.const (.bool true), .const (.bool true), .const (.bool true)]) Tryd.underlying70 zr70 bld70 rfl rfl rfl rfl) ?_)
       refine TL.cons (TL.store 0 (ds := [.bool false, .bool true, .bool true, .bool true]) (cs' := [.bool false, .bool true, .bool true, .bool true]) (L' := (Blk b1 [.bool false, .bool true, .bool true, .bool true] 70 :: L)) rfl fsz70 rfl rfl rfl rfl rfl (Nat.le_of_ble_eq_true rfl) rfl rfl ?_)
       refine TL.cons (TO.val rfl rfl rfl (Val.assign rfl) ?_)
       refine TL.nil ?_
       refine TQ.then_ ?_
       refine TC.ret ?_
       refine TQ.inBR ?_
       refine TQ.thenR ?_
       obtain rfl := Option.some.inj h
       exact TQ.fin (.inl rfl) rfl Tryd.results50 (.cells 0 rfl rfl agg70 fsz70 (.tmp rfl .nil)) rfl (FRel.mk (Ls := []) [] 1 (Gd.le.refl _) rfl rfl rfl ⟨rfl, rfl, rfl⟩)
      ·
       refine TC.seq ?_
       refine TC.region ?_
       refine TL.cons (TO.val rfl rfl rfl (Val.cmp rfl rfl run_eql) ?_)
       refine TL.cons (TO.val rfl rfl rfl (Val.assign rfl) ?_)
       refine TL.nil ?_
       refine TQ.then_ ?_
       refine TC.cond_p rfl h (fun hc80 h => ?_) (fun hc80 h => ?_)
       ·
        refine TC.seq ?_
        refine TC.region ?_
        refine TL.cons (TO.val rfl rfl rfl (Val.build (cs := [.bool true, .bool false, .bool false, .bool false]) (is := [0]) (xs := [.const (.bool true)]) Tryd.underlying70 zr70 bld70 rfl rfl rfl rfl) ?_)
        refine TL.cons (TL.store 0 (ds := [.bool true, .bool false, .bool false, .bool false]) (cs' := [.bool true, .bool false, .bool false, .bool false]) (L' := (Blk b1 [.bool true, .bool false, .bool false, .bool false] 70 :: L)) rfl fsz70 rfl rfl rfl rfl rfl (Nat.le_of_ble_eq_true rfl) rfl rfl ?_)
        refine TL.cons (TO.val rfl rfl rfl (Val.assign rfl) ?_)
        refine TL.nil ?_
        refine TQ.then_ ?_
        refine TC.ret ?_
        refine TQ.inBR ?_
        refine TQ.thenR ?_
        obtain rfl := Option.some.inj h
        exact TQ.fin (.inl rfl) rfl Tryd.results50 (.cells 0 rfl rfl agg70 fsz70 (.tmp rfl .nil)) rfl (FRel.mk (Ls := []) [] 1 (Gd.le.refl _) rfl rfl rfl ⟨rfl, rfl, rfl⟩)
       ·
        refine TC.seq ?_
        refine TC.region ?_
        refine TL.cons (TO.val rfl rfl rfl (Val.cmp rfl rfl run_eql) ?_)
        refine TL.cons (TO.val rfl rfl rfl (Val.assign rfl) ?_)
        refine TL.nil ?_
        refine TQ.then_ ?_
        refine TC.cond_p rfl h (fun hc82 h => ?_) (fun hc82 h => ?_)
        ·
         refine TC.seq ?_
         refine TC.region ?_
         refine TL.cons (TO.val rfl rfl rfl (Val.build (cs := [.bool false, .bool true, .bool false, .bool false]) (is := [1]) (xs := [.const (.bool true)]) Tryd.underlying70 zr70 bld70 rfl rfl rfl rfl) ?_)
         refine TL.cons (TL.store 0 (ds := [.bool false, .bool true, .bool false, .bool false]) (cs' := [.bool false, .bool true, .bool false, .bool false]) (L' := (Blk b1 [.bool false, .bool true, .bool false, .bool false] 70 :: L)) rfl fsz70 rfl rfl rfl rfl rfl (Nat.le_of_ble_eq_true rfl) rfl rfl ?_)
         refine TL.cons (TO.val rfl rfl rfl (Val.assign rfl) ?_)
         refine TL.nil ?_
         refine TQ.then_ ?_
         refine TC.ret ?_
         refine TQ.inBR ?_
         refine TQ.thenR ?_
         obtain rfl := Option.some.inj h
         exact TQ.fin (.inl rfl) rfl Tryd.results50 (.cells 0 rfl rfl agg70 fsz70 (.tmp rfl .nil)) rfl (FRel.mk (Ls := []) [] 1 (Gd.le.refl _) rfl rfl rfl ⟨rfl, rfl, rfl⟩)
        ·
         refine TC.skip ?_
         refine TQ.inB ?_
         refine TQ.then_ ?_
         refine TC.seq ?_
         refine TC.region ?_
         refine TL.cons (TO.val rfl rfl rfl (Val.build (cs := [.bool false, .bool false, .bool false, .bool false]) (is := []) (xs := []) Tryd.underlying70 zr70 bld70 rfl rfl rfl rfl) ?_)
         refine TL.cons (TL.store 0 (ds := [.bool false, .bool false, .bool false, .bool false]) (cs' := [.bool false, .bool false, .bool false, .bool false]) (L' := (Blk b1 [.bool false, .bool false, .bool false, .bool false] 70 :: L)) rfl fsz70 rfl rfl rfl rfl rfl (Nat.le_of_ble_eq_true rfl) rfl rfl ?_)
         refine TL.cons (TO.val rfl rfl rfl (Val.assign rfl) ?_)
         refine TL.nil ?_
         refine TQ.then_ ?_
         refine TC.ret ?_
         obtain rfl := Option.some.inj h
         exact TQ.fin (.inl rfl) rfl Tryd.results50 (.cells 0 rfl rfl agg70 fsz70 (.tmp rfl .nil)) rfl (FRel.mk (Ls := []) [] 1 (Gd.le.refl _) rfl rfl rfl ⟨rfl, rfl, rfl⟩)
 ·
  refine TC.cond_p rfl h (fun hc83 h => ?_) (fun hc83 h => ?_)
  ·
   refine TC.skip ?_
   exact fun a W hF hO => ⟨decide (a0 = 1), h, hF.sub ⟨rfl, rfl, rfl, trivial⟩, hO.selT (Ls := [Blk b1 [.bool false, .bool false, .bool false, .bool false] 70]) [0] 1 rfl rfl rfl⟩
  ·
   refine TC.seq ?_
   refine TC.region ?_
   refine TL.cons (TO.val rfl rfl rfl (Val.cmp rfl rfl run_eql) ?_)
   refine TL.cons (TO.val rfl rfl rfl (Val.assign rfl) ?_)
   refine TL.nil ?_
   refine TQ.then_ ?_
   refine TC.cond_p rfl h (fun hc85 h => ?_) (fun hc85 h => ?_)
   ·
    refine TC.skip ?_
    exact fun a W hF hO => ⟨decide (a0 = 6), h, hF.sub ⟨rfl, rfl, rfl, trivial⟩, hO.selT (Ls := [Blk b1 [.bool false, .bool false, .bool false, .bool false] 70]) [0] 1 rfl rfl rfl⟩
   ·
    refine TC.region ?_
    refine TL.cons (TO.val rfl rfl rfl (Val.cmp rfl rfl run_eql) ?_)
    refine TL.cons (TO.val rfl rfl rfl (Val.assign rfl) ?_)
    refine TL.nil ?_
    exact fun a W hF hO => ⟨decide (a0 = 7), h, hF.sub ⟨rfl, rfl, rfl, trivial⟩, hO.selT (Ls := [Blk b1 [.bool false, .bool false, .bool false, .bool false] 70]) [0] 1 rfl rfl rfl⟩
end Go.Proofs.YtmacdhkfgoahcaaDoor.Sy
set_option linter.unusedVariables false
set_option linter.unusedSimpArgs false
set_option maxRecDepth 100000
set_option maxHeartbeats 4000000
namespace Go.Proofs.YtmacdhkfgoahcaaDoor.Sy
open Go Go.RowKit Go.Proofs.YtmacdhkfgoahcaaDoorW.PrintWords 
def code_within.f (a0 : Int) (a1 : Int) (a2 : Int) : Option Bool := (if a1 ≤ a0 then some (decide (a0 ≤ a2)) else some false)
def code_within.post (G : Gd)  (r : Bool) (v : Value) (G' : Gd) (Lr : List Ch) : Prop := G = G' ∧ v = .bool r ∧ Lr = []
theorem code_within.calls {G : Gd} {r : Bool} {a0 : Int} {a1 : Int} {a2 : Int} (h : code_within.f a0 a1 a2 = some r) : Fn Tryd.prog 45 G [] [.int .i64 a0, .int .i64 a1, .int .i64 a2] (code_within.post G  r) := by
 refine Fn.intro (e := [(0, .int .i64 a0), (1, .int .i64 a1), (2, .int .i64 a2)]) 15 Tryd.func45 rfl Tryd.ntmps45 rfl rfl (Nat.le_of_ble_eq_true rfl) (fun L => ?_)
 unfold code_within.f at h
 refine TC.seq ?_
 refine TC.region ?_
 refine TL.cons (TO.val rfl rfl rfl (Val.assign rfl) ?_)
 refine TL.nil ?_
 refine TQ.then_ ?_
 refine TC.seq ?_
 refine TC.region ?_
 refine TL.cons (TO.val rfl rfl rfl (Val.move rfl) ?_)
 refine TL.cons (TO.val rfl rfl rfl (Val.move rfl) ?_)
 refine TL.cons (TO.val rfl rfl rfl (Val.cmp rfl rfl run_geq) ?_)
 refine TL.cons (TO.val rfl rfl rfl (Val.move rfl) ?_)
 refine TK.split (p := a1 ≤ a0) h (fun hg4 h => ?_) (fun hg4 h => ?_)
 ·
  have hk5 : decide (a1 ≤ a0) = true := decide_eq_true hg4
  refine TL.cons (TO.val (Wt.yes rfl rfl rfl hk5) rfl rfl (Val.move rfl) ?_)
  refine TL.cons (TO.val (Wt.yes rfl rfl rfl hk5) rfl rfl (Val.move rfl) ?_)
  refine TL.cons (TO.val (Wt.yes rfl rfl rfl hk5) rfl rfl (Val.cmp rfl rfl run_leq) ?_)
  refine TL.cons (TO.val rfl rfl rfl (Val.pickY rfl hk5 rfl) ?_)
  refine TL.cons (TO.val rfl rfl rfl (Val.assign rfl) ?_)
  refine TL.nil ?_
  refine TQ.then_ ?_
  refine TC.ret ?_
  obtain rfl := Option.some.inj h
  exact TQ.fin (.inl rfl) rfl Tryd.results45 (.tmp rfl .nil) rfl (FRel.mk (Ls := []) [] 0 (Gd.le.refl _) rfl rfl rfl ⟨rfl, rfl, rfl⟩)
 ·
  have hk6 : decide (a1 ≤ a0) = false := decide_eq_false hg4
  refine TL.cons (TL.not (Wt.no rfl rfl rfl hk6) rfl ?_)
  refine TL.cons (TL.not (Wt.no rfl rfl rfl hk6) rfl ?_)
  refine TL.cons (TL.not (Wt.no rfl rfl rfl hk6) rfl ?_)
  refine TL.cons (TO.val rfl rfl rfl (Val.pickN rfl hk6 rfl) ?_)
  refine TL.cons (TO.val rfl rfl rfl (Val.assign rfl) ?_)
  refine TL.nil ?_
  refine TQ.then_ ?_
  refine TC.ret ?_
  obtain rfl := Option.some.inj h
  exact TQ.fin (.inl rfl) rfl Tryd.results45 (.tmp rfl .nil) rfl (FRel.mk (Ls := []) [] 0 (Gd.le.refl _) rfl rfl rfl ⟨rfl, rfl, rfl⟩)
end Go.Proofs.YtmacdhkfgoahcaaDoor.Sy
set_option linter.unusedVariables false
set_option linter.unusedSimpArgs false
set_option maxRecDepth 100000
set_option maxHeartbeats 4000000
namespace Go.Proofs.YtmacdhkfgoahcaaDoor.Sy
open Go Go.RowKit Go.Proofs.YtmacdhkfgoahcaaDoorW.PrintWords 
def code_reg.f (a0 : Int) : Option Bool := (code_within.f a0 1 4096).bind fun (y1 : Bool) => some y1
def code_reg.post (G : Gd)  (r : Bool) (v : Value) (G' : Gd) (Lr : List Ch) : Prop := G = G' ∧ v = .bool r ∧ Lr = []
theorem code_reg.calls {G : Gd} {r : Bool} {a0 : Int} (h : code_reg.f a0 = some r) : Fn Tryd.prog 55 G [] [.int .i64 a0] (code_reg.post G  r) := by
 refine Fn.intro (e := [(0, .int .i64 a0)]) 5 Tryd.func55 rfl Tryd.ntmps55 rfl rfl (Nat.le_of_ble_eq_true rfl) (fun L => ?_)
 unfold code_reg.f at h
 refine TC.seq ?_
 refine TC.region ?_
 refine TL.cons (TO.val rfl rfl rfl (Val.assign rfl) ?_)
 refine TL.nil ?_
 refine TQ.then_ ?_
 refine TC.seq ?_
 refine TC.region ?_
 refine TL.cons (TO.val rfl rfl rfl (Val.move rfl) ?_)
 obtain ⟨y1, hy2, h⟩ := bind_no h
 refine TL.cons (TL.callV (Lin := []) (args := [.int .i64 a0, .int .i64 1, .int .i64 4096]) rfl rfl rfl hbd45 rfl rfl (code_within.calls (a0 := a0) (a1 := 1) (a2 := 4096) hy2) rfl ?_)
 rintro _ _ _ _ ⟨rfl, rfl, rfl⟩
 refine TL.cons (TO.val rfl rfl rfl (Val.assign rfl) ?_)
 refine TL.nil ?_
 refine TQ.then_ ?_
 refine TC.ret ?_
 obtain rfl := Option.some.inj h
 exact TQ.fin (.inl rfl) rfl Tryd.results55 (.tmp rfl .nil) rfl (FRel.mk (Ls := []) [] 0 (Gd.le.refl _) rfl rfl rfl ⟨rfl, rfl, rfl⟩)
end Go.Proofs.YtmacdhkfgoahcaaDoor.Sy
set_option linter.unusedVariables false
set_option linter.unusedSimpArgs false
set_option maxRecDepth 100000
set_option maxHeartbeats 4000000
namespace Go.Proofs.YtmacdhkfgoahcaaDoor.Sy
open Go Go.RowKit Go.Proofs.YtmacdhkfgoahcaaDoorW.PrintWords 
def code_field.f (a0 : Int) (a1 : Bool) : Option Bool := (if a0 = 0 then (if (!a1) = true then some true else (if a1 = true then (code_reg.f a0).bind fun (y24 : Bool) => some y24 else some false)) else (if a1 = true then (code_reg.f a0).bind fun (y30 : Bool) => some y30 else some false))
def code_field.post (G : Gd)  (r : Bool) (v : Value) (G' : Gd) (Lr : List Ch) : Prop := G = G' ∧ v = .bool r ∧ Lr = []
theorem code_field.calls {G : Gd} {r : Bool} {a0 : Int} {a1 : Bool} (h : code_field.f a0 a1 = some r) : Fn Tryd.prog 51 G [] [.int .i64 a0, .bool a1] (code_field.post G  r) := by
 refine Fn.intro (e := [(0, .int .i64 a0), (1, .bool a1)]) 18 Tryd.func51 rfl Tryd.ntmps51 rfl rfl (Nat.le_of_ble_eq_true rfl) (fun L => ?_)
 unfold code_field.f at h
 refine TC.seq ?_
 refine TC.region ?_
 refine TL.cons (TO.val rfl rfl rfl (Val.assign rfl) ?_)
 refine TL.nil ?_
 refine TQ.then_ ?_
 refine TC.seq ?_
 refine TC.region ?_
 refine TL.cons (TO.val rfl rfl rfl (Val.move rfl) ?_)
 refine TL.cons (TO.val rfl rfl rfl (Val.cmp rfl rfl run_eql) ?_)
 refine TL.cons (TO.val rfl rfl rfl (Val.move rfl) ?_)
 refine TK.split (p := a0 = 0) h (fun hg17 h => ?_) (fun hg17 h => ?_)
 ·
  have hk18 : decide (a0 = 0) = true := decide_eq_true hg17
  refine TL.cons (TO.val (Wt.yes rfl rfl rfl hk18) rfl rfl (Val.move rfl) ?_)
  refine TL.cons (TO.val (Wt.yes rfl rfl rfl hk18) rfl rfl (Val.not_ rfl) ?_)
  refine TL.cons (TO.val rfl rfl rfl (Val.pickY rfl hk18 rfl) ?_)
  refine TL.cons (TO.val rfl rfl rfl (Val.move rfl) ?_)
  refine TK.split (p := (!a1) = true) h (fun hg19 h => ?_) (fun hg19 h => ?_)
  ·
   have hk20 : (!a1) = true := hg19
   refine TL.cons (TL.not (Wt.no rfl rfl rfl hk20) rfl ?_)
   refine TL.cons (TL.not (Wt.no rfl rfl rfl hk20) rfl ?_)
   refine TL.cons (TL.not rfl rfl ?_)
   refine TL.cons (TL.not rfl rfl ?_)
   refine TL.cons (TL.not (Wt.no rfl rfl rfl hk20) rfl ?_)
   refine TL.cons (TO.val rfl rfl rfl (Val.pickY rfl hk20 rfl) ?_)
   refine TL.cons (TO.val rfl rfl rfl (Val.assign rfl) ?_)
   refine TL.nil ?_
   refine TQ.then_ ?_
   refine TC.ret ?_
   obtain rfl := Option.some.inj h
   exact TQ.fin (.inl rfl) rfl Tryd.results51 (.tmp rfl .nil) rfl (FRel.mk (Ls := []) [] 0 (Gd.le.refl _) rfl rfl rfl ⟨rfl, rfl, rfl⟩)
  ·
   have hk21 : (!a1) = false := (by simpa using hg19)
   refine TL.cons (TO.val (Wt.yes rfl rfl rfl hk21) rfl rfl (Val.move rfl) ?_)
   refine TL.cons (TO.val (Wt.yes rfl rfl rfl hk21) rfl rfl (Val.move rfl) ?_)
   refine TK.split (p := a1 = true) h (fun hg22 h => ?_) (fun hg22 h => ?_)
   ·
    have hk23 : a1 = true := hg22
    refine TL.cons (TO.val (Wt.yes rfl rfl rfl hk23) rfl rfl (Val.move rfl) ?_)
    obtain ⟨y24, hy25, h⟩ := bind_no h
    refine TL.cons (TL.callV (Lin := []) (args := [.int .i64 a0]) (Wt.yes rfl rfl rfl hk23) rfl rfl hbd55 rfl rfl (code_reg.calls (a0 := a0) hy25) rfl ?_)
    rintro _ _ _ _ ⟨rfl, rfl, rfl⟩
    refine TL.cons (TO.val (Wt.yes rfl rfl rfl hk21) rfl rfl (Val.pickY rfl hk23 rfl) ?_)
    refine TL.cons (TO.val rfl rfl rfl (Val.pickN rfl hk21 rfl) ?_)
    refine TL.cons (TO.val rfl rfl rfl (Val.assign rfl) ?_)
    refine TL.nil ?_
    refine TQ.then_ ?_
    refine TC.ret ?_
    obtain rfl := Option.some.inj h
    exact TQ.fin (.inl rfl) rfl Tryd.results51 (.tmp rfl .nil) rfl (FRel.mk (Ls := []) [] 0 (Gd.le.refl _) rfl rfl rfl ⟨rfl, rfl, rfl⟩)
   ·
    have hk26 : a1 = false := (by simpa using hg22)
    refine TL.cons (TL.not (Wt.no rfl rfl rfl hk26) rfl ?_)
    refine TL.cons (TL.not (Wt.no rfl rfl rfl hk26) rfl ?_)
    refine TL.cons (TO.val (Wt.yes rfl rfl rfl hk21) rfl rfl (Val.pickN rfl hk26 rfl) ?_)
    refine TL.cons (TO.val rfl rfl rfl (Val.pickN rfl hk21 rfl) ?_)
    refine TL.cons (TO.val rfl rfl rfl (Val.assign rfl) ?_)
    refine TL.nil ?_
    refine TQ.then_ ?_
    refine TC.ret ?_
    obtain rfl := Option.some.inj h
    exact TQ.fin (.inl rfl) rfl Tryd.results51 (.tmp rfl .nil) rfl (FRel.mk (Ls := []) [] 0 (Gd.le.refl _) rfl rfl rfl ⟨rfl, rfl, rfl⟩)
 ·
  have hk27 : decide (a0 = 0) = false := decide_eq_false hg17
  refine TL.cons (TL.not (Wt.no rfl rfl rfl hk27) rfl ?_)
  refine TL.cons (TL.not (Wt.no rfl rfl rfl hk27) rfl ?_)
  refine TL.cons (TO.val rfl rfl rfl (Val.pickN rfl hk27 rfl) ?_)
  refine TL.cons (TO.val rfl rfl rfl (Val.move rfl) ?_)
  refine TL.cons (TO.val (Wt.yes rfl rfl rfl rfl) rfl rfl (Val.move rfl) ?_)
  refine TL.cons (TO.val (Wt.yes rfl rfl rfl rfl) rfl rfl (Val.move rfl) ?_)
  refine TK.split (p := a1 = true) h (fun hg28 h => ?_) (fun hg28 h => ?_)
  ·
   have hk29 : a1 = true := hg28
   refine TL.cons (TO.val (Wt.yes rfl rfl rfl hk29) rfl rfl (Val.move rfl) ?_)
   obtain ⟨y30, hy31, h⟩ := bind_no h
   refine TL.cons (TL.callV (Lin := []) (args := [.int .i64 a0]) (Wt.yes rfl rfl rfl hk29) rfl rfl hbd55 rfl rfl (code_reg.calls (a0 := a0) hy31) rfl ?_)
   rintro _ _ _ _ ⟨rfl, rfl, rfl⟩
   refine TL.cons (TO.val (Wt.yes rfl rfl rfl rfl) rfl rfl (Val.pickY rfl hk29 rfl) ?_)
   refine TL.cons (TO.val rfl rfl rfl (Val.pickN rfl rfl rfl) ?_)
   refine TL.cons (TO.val rfl rfl rfl (Val.assign rfl) ?_)
   refine TL.nil ?_
   refine TQ.then_ ?_
   refine TC.ret ?_
   obtain rfl := Option.some.inj h
   exact TQ.fin (.inl rfl) rfl Tryd.results51 (.tmp rfl .nil) rfl (FRel.mk (Ls := []) [] 0 (Gd.le.refl _) rfl rfl rfl ⟨rfl, rfl, rfl⟩)
  ·
   have hk32 : a1 = false := (by simpa using hg28)
   refine TL.cons (TL.not (Wt.no rfl rfl rfl hk32) rfl ?_)
   refine TL.cons (TL.not (Wt.no rfl rfl rfl hk32) rfl ?_)
   refine TL.cons (TO.val (Wt.yes rfl rfl rfl rfl) rfl rfl (Val.pickN rfl hk32 rfl) ?_)
   refine TL.cons (TO.val rfl rfl rfl (Val.pickN rfl rfl rfl) ?_)
   refine TL.cons (TO.val rfl rfl rfl (Val.assign rfl) ?_)
   refine TL.nil ?_
   refine TQ.then_ ?_
   refine TC.ret ?_
   obtain rfl := Option.some.inj h
   exact TQ.fin (.inl rfl) rfl Tryd.results51 (.tmp rfl .nil) rfl (FRel.mk (Ls := []) [] 0 (Gd.le.refl _) rfl rfl rfl ⟨rfl, rfl, rfl⟩)
end Go.Proofs.YtmacdhkfgoahcaaDoor.Sy
set_option linter.unusedVariables false
set_option linter.unusedSimpArgs false
set_option maxRecDepth 100000
set_option maxHeartbeats 4000000
namespace Go.Proofs.YtmacdhkfgoahcaaDoor.Sy
open Go Go.RowKit Go.Proofs.YtmacdhkfgoahcaaDoorW.PrintWords 
def word_Known.f (a0 : Int) : Option Bool := (if 1 ≤ a0 then some (decide (a0 ≤ 14)) else some false)
def word_Known.post (G : Gd)  (r : Bool) (v : Value) (G' : Gd) (Lr : List Ch) : Prop := G = G' ∧ v = .bool r ∧ Lr = []
theorem word_Known.calls {G : Gd} {r : Bool} {a0 : Int} (h : word_Known.f a0 = some r) : Fn Tryd.prog 80 G [] [.int .i64 a0] (word_Known.post G  r) := by
 refine Fn.intro (e := [(0, .int .i64 a0)]) 9 Tryd.func80 rfl Tryd.ntmps80 rfl rfl (Nat.le_of_ble_eq_true rfl) (fun L => ?_)
 unfold word_Known.f at h
 refine TC.seq ?_
 refine TC.region ?_
 refine TL.cons (TO.val rfl rfl rfl (Val.assign rfl) ?_)
 refine TL.nil ?_
 refine TQ.then_ ?_
 refine TC.seq ?_
 refine TC.region ?_
 refine TL.cons (TO.val rfl rfl rfl (Val.move rfl) ?_)
 refine TL.cons (TO.val rfl rfl rfl (Val.cmp rfl rfl run_geq) ?_)
 refine TL.cons (TO.val rfl rfl rfl (Val.move rfl) ?_)
 refine TK.split (p := 1 ≤ a0) h (fun hg4 h => ?_) (fun hg4 h => ?_)
 ·
  have hk5 : decide (1 ≤ a0) = true := decide_eq_true hg4
  refine TL.cons (TO.val (Wt.yes rfl rfl rfl hk5) rfl rfl (Val.move rfl) ?_)
  refine TL.cons (TO.val (Wt.yes rfl rfl rfl hk5) rfl rfl (Val.cmp rfl rfl run_leq) ?_)
  refine TL.cons (TO.val rfl rfl rfl (Val.pickY rfl hk5 rfl) ?_)
  refine TL.cons (TO.val rfl rfl rfl (Val.assign rfl) ?_)
  refine TL.nil ?_
  refine TQ.then_ ?_
  refine TC.ret ?_
  obtain rfl := Option.some.inj h
  exact TQ.fin (.inl rfl) rfl Tryd.results80 (.tmp rfl .nil) rfl (FRel.mk (Ls := []) [] 0 (Gd.le.refl _) rfl rfl rfl ⟨rfl, rfl, rfl⟩)
 ·
  have hk6 : decide (1 ≤ a0) = false := decide_eq_false hg4
  refine TL.cons (TL.not (Wt.no rfl rfl rfl hk6) rfl ?_)
  refine TL.cons (TL.not (Wt.no rfl rfl rfl hk6) rfl ?_)
  refine TL.cons (TO.val rfl rfl rfl (Val.pickN rfl hk6 rfl) ?_)
  refine TL.cons (TO.val rfl rfl rfl (Val.assign rfl) ?_)
  refine TL.nil ?_
  refine TQ.then_ ?_
  refine TC.ret ?_
  obtain rfl := Option.some.inj h
  exact TQ.fin (.inl rfl) rfl Tryd.results80 (.tmp rfl .nil) rfl (FRel.mk (Ls := []) [] 0 (Gd.le.refl _) rfl rfl rfl ⟨rfl, rfl, rfl⟩)
end Go.Proofs.YtmacdhkfgoahcaaDoor.Sy
set_option linter.unusedVariables false
set_option linter.unusedSimpArgs false
set_option maxRecDepth 100000
set_option maxHeartbeats 4000000
namespace Go.Proofs.YtmacdhkfgoahcaaDoor.Sy
open Go Go.RowKit Go.Proofs.YtmacdhkfgoahcaaDoorW.PrintWords 
def code_immediate.f (a0 : S40) (a1 : S70) (a2 : Int) : Option Bool := (if a0.f0 = 2 then (word_Known.f a0.f4).bind fun (y74 : Bool) => some y74 else jn (γ := Bool) (fun (x77 : Bool) => (if x77 = true then (code_within.f a0.f4 (-2147483648) 2147483647).bind fun (y89 : Bool) => some y89 else (if a0.f0 = 6 then (code_within.f a0.f4 0 1048576).bind fun (y98 : Bool) => some y98 else (if a0.f0 = 7 then (code_within.f a0.f4 0 (IntKind.i64.wrap (a2 - 1))).bind fun (y104 : Bool) => some y104 else (if a1.f3 = true then some true else some (decide (a0.f4 = 0))))))) (fun (j78 : (Bool → Option Bool)) => (if a0.f0 = 4 then j78 (decide (a0.f0 = 4)) else j78 (decide (a0.f0 = 5)))))
def code_immediate.post (G : Gd)  (r : Bool) (v : Value) (G' : Gd) (Lr : List Ch) : Prop := G = G' ∧ v = .bool r ∧ Lr = []
theorem code_immediate.calls {G : Gd} {r : Bool} {a0 : S40} {a1 : S70} {a2 : Int} {A1 : Option Addr} {c2 : Nat} (hr3 : Rd G (Kd.int .i64) A1 a0.f5) (hl4 : a0.f5.length ≤ c2) (h : code_immediate.f a0 a1 a2 = some r) : Fn Tryd.prog 52 G [] [.agg #[.int .i64 a0.f0, .int .i64 a0.f1, .int .i64 a0.f2, .int .i64 a0.f3, .int .i64 a0.f4, .slice A1 a0.f5.length c2], .agg #[.bool a1.f0, .bool a1.f1, .bool a1.f2, .bool a1.f3], .int .i64 a2] (code_immediate.post G  r) := by
 refine Fn.intro (e := [(0, .agg #[.int .i64 a0.f0, .int .i64 a0.f1, .int .i64 a0.f2, .int .i64 a0.f3, .int .i64 a0.f4, .slice A1 a0.f5.length c2]), (1, .agg #[.bool a1.f0, .bool a1.f1, .bool a1.f2, .bool a1.f3]), (2, .int .i64 a2)]) 39 Tryd.func52 rfl Tryd.ntmps52 rfl rfl (Nat.le_of_ble_eq_true rfl) (fun L => ?_)
 unfold code_immediate.f at h
 refine TC.seq ?_
 refine TC.region ?_
 refine TL.cons (TL.box (cs := [.int .i64 a0.f0, .int .i64 a0.f1, .int .i64 a0.f2, .int .i64 a0.f3, .int .i64 a0.f4, .slice A1 a0.f5.length c2]) rfl rfl rfl rfl (fun b5 => ?_))
 refine TL.cons (TL.box (cs := [.bool a1.f0, .bool a1.f1, .bool a1.f2, .bool a1.f3]) rfl rfl rfl rfl (fun b6 => ?_))
 refine TL.cons (TO.val rfl rfl rfl (Val.assign rfl) ?_)
 refine TL.nil ?_
 refine TQ.then_ ?_
 refine TC.seq ?_
 refine TC.seq ?_
 refine TC.region ?_
 refine TL.cons (TO.val rfl rfl rfl (Val.fieldAddrB Tryd.underlying40 rfl fsz3 rfl rfl rfl) ?_)
 refine TL.cons (TO.val rfl rfl rfl (Val.loadB 1 agg3 rfl rfl rfl) ?_)
 refine TL.nil ?_
 refine TQ.then_ ?_
 refine TC.block ?_
 refine TC.seq ?_
 refine TC.region ?_
 refine TL.cons (TO.val rfl rfl rfl (Val.cmp rfl rfl run_eql) ?_)
 refine TL.cons (TO.val rfl rfl rfl (Val.assign rfl) ?_)
 refine TL.nil ?_
 refine TQ.then_ ?_
 refine TC.cond_p rfl h (fun hc73 h => ?_) (fun hc73 h => ?_)
 ·
  refine TC.seq ?_
  refine TC.region ?_
  refine TL.cons (TO.val rfl rfl rfl (Val.fieldAddrB Tryd.underlying40 rfl fsz3 rfl rfl rfl) ?_)
  refine TL.cons (TO.val rfl rfl rfl (Val.loadB 1 agg3 rfl rfl rfl) ?_)
  obtain ⟨y74, hy75, h⟩ := bind_no h
  refine TL.cons (TL.callV (Lin := []) (args := [.int .i64 a0.f4]) rfl rfl rfl hbd80 rfl rfl (word_Known.calls (a0 := a0.f4) hy75) rfl ?_)
  rintro _ _ _ _ ⟨rfl, rfl, rfl⟩
  refine TL.cons (TO.val rfl rfl rfl (Val.assign rfl) ?_)
  refine TL.nil ?_
  refine TQ.then_ ?_
  refine TC.ret ?_
  refine TQ.inBR ?_
  refine TQ.thenR ?_
  obtain rfl := Option.some.inj h
  exact TQ.fin (.inl rfl) rfl Tryd.results52 (.tmp rfl .nil) rfl (FRel.mk (Ls := []) [] 2 (Gd.le.refl _) rfl rfl rfl ⟨rfl, rfl, rfl⟩)
 ·
  refine TC.seq ?_
  refine TC.seq ?_
  refine TC.region ?_
  refine TL.cons (TO.val rfl rfl rfl (Val.cmp rfl rfl run_eql) ?_)
  refine TL.cons (TO.val rfl rfl rfl (Val.assign rfl) ?_)
  refine TL.nil ?_
  refine TQ.then_ ?_
  obtain ⟨j78, hj78, h⟩ := jn_no h
  refine TC.tail (fun a W => ∃ (x77 : Bool), j78 x77 = some r ∧ Fr 39 a [(2, .int .i64 a2), (3, .pointer (some ⟨b5, 0, none⟩)), (4, .pointer (some ⟨b6, 0, none⟩)), (8, .int .i64 a0.f0), (14, .bool x77)] ∧ Own G (Blk b5 [.int .i64 a0.f0, .int .i64 a0.f1, .int .i64 a0.f2, .int .i64 a0.f3, .int .i64 a0.f4, .slice A1 a0.f5.length c2] 40 :: Blk b6 [.bool a1.f0, .bool a1.f1, .bool a1.f2, .bool a1.f3] 70 :: L) W) ?_ ?_
  ·
   rintro a W ⟨x77, h, hF, hO⟩
   rw [hj78] at h
   refine TQ.use ?_ hF hO
   clear hF hO
   refine TQ.then_ ?_
   refine TC.cond_b rfl h (fun hc88 h => ?_) (fun hc88 h => ?_)
   ·
    refine TC.seq ?_
    refine TC.region ?_
    refine TL.cons (TO.val rfl rfl rfl (Val.fieldAddrB Tryd.underlying40 rfl fsz3 rfl rfl rfl) ?_)
    refine TL.cons (TO.val rfl rfl rfl (Val.loadB 0 agg3 rfl rfl rfl) ?_)
    obtain ⟨y89, hy90, h⟩ := bind_no h
    refine TL.cons (TL.callV (Lin := []) (args := [.int .i64 a0.f4, .int .i64 (-2147483648), .int .i64 2147483647]) rfl rfl rfl hbd45 rfl rfl (code_within.calls (a0 := a0.f4) (a1 := (-2147483648)) (a2 := 2147483647) hy90) rfl ?_)
    rintro _ _ _ _ ⟨rfl, rfl, rfl⟩
    refine TL.cons (TO.val rfl rfl rfl (Val.assign rfl) ?_)
    refine TL.nil ?_
    refine TQ.then_ ?_
    refine TC.ret ?_
    refine TQ.inBR ?_
    refine TQ.thenR ?_
    obtain rfl := Option.some.inj h
    exact TQ.fin (.inl rfl) rfl Tryd.results52 (.tmp rfl .nil) rfl (FRel.mk (Ls := []) [] 2 (Gd.le.refl _) rfl rfl rfl ⟨rfl, rfl, rfl⟩)
   ·
    refine TC.seq ?_
    refine TC.region ?_
    refine TL.cons (TO.val rfl rfl rfl (Val.cmp rfl rfl run_eql) ?_)
    refine TL.cons (TO.val rfl rfl rfl (Val.assign rfl) ?_)
    refine TL.nil ?_
    refine TQ.then_ ?_
    refine TC.cond_p rfl h (fun hc97 h => ?_) (fun hc97 h => ?_)
    ·
     refine TC.seq ?_
     refine TC.region ?_
     refine TL.cons (TO.val rfl rfl rfl (Val.fieldAddrB Tryd.underlying40 rfl fsz3 rfl rfl rfl) ?_)
     refine TL.cons (TO.val rfl rfl rfl (Val.loadB 0 agg3 rfl rfl rfl) ?_)
     obtain ⟨y98, hy99, h⟩ := bind_no h
     refine TL.cons (TL.callV (Lin := []) (args := [.int .i64 a0.f4, .int .i64 0, .int .i64 1048576]) rfl rfl rfl hbd45 rfl rfl (code_within.calls (a0 := a0.f4) (a1 := 0) (a2 := 1048576) hy99) rfl ?_)
     rintro _ _ _ _ ⟨rfl, rfl, rfl⟩
     refine TL.cons (TO.val rfl rfl rfl (Val.assign rfl) ?_)
     refine TL.nil ?_
     refine TQ.then_ ?_
     refine TC.ret ?_
     refine TQ.inBR ?_
     refine TQ.thenR ?_
     obtain rfl := Option.some.inj h
     exact TQ.fin (.inl rfl) rfl Tryd.results52 (.tmp rfl .nil) rfl (FRel.mk (Ls := []) [] 2 (Gd.le.refl _) rfl rfl rfl ⟨rfl, rfl, rfl⟩)
    ·
     refine TC.seq ?_
     refine TC.region ?_
     refine TL.cons (TO.val rfl rfl rfl (Val.cmp rfl rfl run_eql) ?_)
     refine TL.cons (TO.val rfl rfl rfl (Val.assign rfl) ?_)
     refine TL.nil ?_
     refine TQ.then_ ?_
     refine TC.cond_p rfl h (fun hc103 h => ?_) (fun hc103 h => ?_)
     ·
      refine TC.seq ?_
      refine TC.region ?_
      refine TL.cons (TO.val rfl rfl rfl (Val.fieldAddrB Tryd.underlying40 rfl fsz3 rfl rfl rfl) ?_)
      refine TL.cons (TO.val rfl rfl rfl (Val.loadB 0 agg3 rfl rfl rfl) ?_)
      refine TL.cons (TO.val rfl rfl rfl (Val.move rfl) ?_)
      refine TL.cons (TO.val rfl rfl rfl (Val.cmp rfl rfl run_sub) ?_)
      obtain ⟨y104, hy105, h⟩ := bind_no h
      refine TL.cons (TL.callV (Lin := []) (args := [.int .i64 a0.f4, .int .i64 0, .int .i64 (IntKind.i64.wrap (a2 - 1))]) rfl rfl rfl hbd45 rfl rfl (code_within.calls (a0 := a0.f4) (a1 := 0) (a2 := IntKind.i64.wrap (a2 - 1)) hy105) rfl ?_)
      rintro _ _ _ _ ⟨rfl, rfl, rfl⟩
      refine TL.cons (TO.val rfl rfl rfl (Val.assign rfl) ?_)
      refine TL.nil ?_
      refine TQ.then_ ?_
      refine TC.ret ?_
      refine TQ.inBR ?_
      refine TQ.thenR ?_
      obtain rfl := Option.some.inj h
      exact TQ.fin (.inl rfl) rfl Tryd.results52 (.tmp rfl .nil) rfl (FRel.mk (Ls := []) [] 2 (Gd.le.refl _) rfl rfl rfl ⟨rfl, rfl, rfl⟩)
     ·
      refine TC.skip ?_
      refine TQ.inB ?_
      refine TQ.then_ ?_
      refine TC.seq ?_
      refine TC.region ?_
      refine TL.cons (TO.val rfl rfl rfl (Val.fieldAddrB Tryd.underlying70 rfl fsz4 rfl rfl rfl) ?_)
      refine TL.cons (TO.val rfl rfl rfl (Val.loadB 1 agg4 rfl rfl rfl) ?_)
      refine TL.cons (TO.val rfl rfl rfl (Val.move rfl) ?_)
      refine TK.split (p := a1.f3 = true) h (fun hg109 h => ?_) (fun hg109 h => ?_)
      ·
       have hk110 : a1.f3 = true := hg109
       refine TL.cons (TL.not (Wt.no rfl rfl rfl hk110) rfl ?_)
       refine TL.cons (TL.not (Wt.no rfl rfl rfl hk110) rfl ?_)
       refine TL.cons (TL.not (Wt.no rfl rfl rfl hk110) rfl ?_)
       refine TL.cons (TO.val rfl rfl rfl (Val.pickY rfl hk110 rfl) ?_)
       refine TL.cons (TO.val rfl rfl rfl (Val.assign rfl) ?_)
       refine TL.nil ?_
       refine TQ.then_ ?_
       refine TC.ret ?_
       obtain rfl := Option.some.inj h
       exact TQ.fin (.inl rfl) rfl Tryd.results52 (.tmp rfl .nil) rfl (FRel.mk (Ls := []) [] 2 (Gd.le.refl _) rfl rfl rfl ⟨rfl, rfl, rfl⟩)
      ·
       have hk111 : a1.f3 = false := (by simpa using hg109)
       refine TL.cons (TO.val (Wt.yes rfl rfl rfl hk111) rfl rfl (Val.fieldAddrB Tryd.underlying40 rfl fsz3 rfl rfl rfl) ?_)
       refine TL.cons (TO.val (Wt.yes rfl rfl rfl hk111) rfl rfl (Val.loadB 0 agg3 rfl rfl rfl) ?_)
       refine TL.cons (TO.val (Wt.yes rfl rfl rfl hk111) rfl rfl (Val.cmp rfl rfl run_eql) ?_)
       refine TL.cons (TO.val rfl rfl rfl (Val.pickN rfl hk111 rfl) ?_)
       refine TL.cons (TO.val rfl rfl rfl (Val.assign rfl) ?_)
       refine TL.nil ?_
       refine TQ.then_ ?_
       refine TC.ret ?_
       obtain rfl := Option.some.inj h
       exact TQ.fin (.inl rfl) rfl Tryd.results52 (.tmp rfl .nil) rfl (FRel.mk (Ls := []) [] 2 (Gd.le.refl _) rfl rfl rfl ⟨rfl, rfl, rfl⟩)
  ·
   refine TC.cond_p rfl h (fun hc112 h => ?_) (fun hc112 h => ?_)
   ·
    refine TC.skip ?_
    exact fun a W hF hO => ⟨decide (a0.f0 = 4), h, hF.sub ⟨rfl, rfl, rfl, rfl, rfl, trivial⟩, hO.selT (Ls := [Blk b5 [.int .i64 a0.f0, .int .i64 a0.f1, .int .i64 a0.f2, .int .i64 a0.f3, .int .i64 a0.f4, .slice A1 a0.f5.length c2] 40, Blk b6 [.bool a1.f0, .bool a1.f1, .bool a1.f2, .bool a1.f3] 70]) [1, 0] 2 rfl rfl rfl⟩
   ·
    refine TC.region ?_
    refine TL.cons (TO.val rfl rfl rfl (Val.cmp rfl rfl run_eql) ?_)
    refine TL.cons (TO.val rfl rfl rfl (Val.assign rfl) ?_)
    refine TL.nil ?_
    exact fun a W hF hO => ⟨decide (a0.f0 = 5), h, hF.sub ⟨rfl, rfl, rfl, rfl, rfl, trivial⟩, hO.selT (Ls := [Blk b5 [.int .i64 a0.f0, .int .i64 a0.f1, .int .i64 a0.f2, .int .i64 a0.f3, .int .i64 a0.f4, .slice A1 a0.f5.length c2] 40, Blk b6 [.bool a1.f0, .bool a1.f1, .bool a1.f2, .bool a1.f3] 70]) [1, 0] 2 rfl rfl rfl⟩
end Go.Proofs.YtmacdhkfgoahcaaDoor.Sy
set_option linter.unusedVariables false
set_option linter.unusedSimpArgs false
set_option maxRecDepth 100000
set_option maxHeartbeats 4000000
namespace Go.Proofs.YtmacdhkfgoahcaaDoor.Sy
open Go Go.RowKit Go.Proofs.YtmacdhkfgoahcaaDoorW.PrintWords 
def code_RightOp_1.f (a0 : Int) : Option Bool := (code_reg.f a0).bind fun (y1 : Bool) => some (!y1)
def code_RightOp_1.post (G : Gd)  (r : Bool) (v : Value) (G' : Gd) (Lr : List Ch) : Prop := G = G' ∧ v = .bool r ∧ Lr = []
theorem code_RightOp_1.calls {G : Gd} {r : Bool} {a0 : Int} (h : code_RightOp_1.f a0 = some r) : Fn Tryd.prog 54 G [] [.int .i64 a0] (code_RightOp_1.post G  r) := by
 refine Fn.intro (e := [(0, .int .i64 a0)]) 6 Tryd.func54 rfl Tryd.ntmps54 rfl rfl (Nat.le_of_ble_eq_true rfl) (fun L => ?_)
 unfold code_RightOp_1.f at h
 refine TC.seq ?_
 refine TC.region ?_
 refine TL.cons (TO.val rfl rfl rfl (Val.assign rfl) ?_)
 refine TL.nil ?_
 refine TQ.then_ ?_
 refine TC.seq ?_
 refine TC.region ?_
 refine TL.cons (TO.val rfl rfl rfl (Val.move rfl) ?_)
 obtain ⟨y1, hy2, h⟩ := bind_no h
 refine TL.cons (TL.callV (Lin := []) (args := [.int .i64 a0]) rfl rfl rfl hbd55 rfl rfl (code_reg.calls (a0 := a0) hy2) rfl ?_)
 rintro _ _ _ _ ⟨rfl, rfl, rfl⟩
 refine TL.cons (TO.val rfl rfl rfl (Val.not_ rfl) ?_)
 refine TL.cons (TO.val rfl rfl rfl (Val.assign rfl) ?_)
 refine TL.nil ?_
 refine TQ.then_ ?_
 refine TC.ret ?_
 obtain rfl := Option.some.inj h
 exact TQ.fin (.inl rfl) rfl Tryd.results54 (.tmp rfl .nil) rfl (FRel.mk (Ls := []) [] 0 (Gd.le.refl _) rfl rfl rfl ⟨rfl, rfl, rfl⟩)
end Go.Proofs.YtmacdhkfgoahcaaDoor.Sy
set_option linter.unusedVariables false
set_option linter.unusedSimpArgs false
set_option maxRecDepth 100000
set_option maxHeartbeats 4000000
namespace Go.Proofs.YtmacdhkfgoahcaaDoor.Sy
open Go Go.RowKit Go.Proofs.YtmacdhkfgoahcaaDoorW.PrintWords 
def code_RightOp.l0 (a0 : S40) (j514 : (Int → Option Bool)) : Nat → Int → Option (Sum Bool (Unit))
 | 0, _ => none
 | n602 + 1, x572 => (if x572 < (a0.f5.length : Int) then (at? a0.f5 x572).bind fun y646 => (code_RightOp_1.f y646).bind fun (y655 : Bool) => (if y655 = true then (j514 x572).bind fun q_ => some (.inl q_) else code_RightOp.l0 a0 j514 n602 (IntKind.i64.wrap (x572 + 1))) else some (.inr ()))
def code_RightOp.f (a0 : S40) (a1 : Int) : Option Bool := (code_shapeOf.f a0.f0).bind fun (y6 : (S70 × Bool)) => jn (γ := Bool) (fun (x70 : Bool) => (if x70 = true then some false else (if (!decide (a0.f0 = 7)) = true then some (decide ((a0.f5.length : Int) = 0)) else (if (a0.f5.length : Int) ≤ 8 then jn (γ := Bool) (fun (x513 : Int) => some (!(decide (0 ≤ x513)))) (fun (j514 : (Int → Option Bool)) => (code_RightOp.l0 a0 j514 (a0.f5.length + 1) 0).bind fun | .inl q_ => some q_ | .inr _ => (j514 (-1))) else some false)))) (fun (j71 : (Bool → Option Bool)) => (if (!y6.2) = true then j71 (!y6.2) else (code_field.f a0.f1 y6.1.f0).bind fun (y661 : Bool) => (if (!y661) = true then j71 (!y661) else (code_field.f a0.f2 y6.1.f1).bind fun (y673 : Bool) => (if (!y673) = true then j71 (!y673) else (code_field.f a0.f3 y6.1.f2).bind fun (y682 : Bool) => (if (!y682) = true then j71 (!y682) else (code_immediate.f a0 y6.1 a1).bind fun (y688 : Bool) => j71 (!y688))))))
def code_RightOp.post (G : Gd)  (r : Bool) (v : Value) (G' : Gd) (Lr : List Ch) : Prop := G = G' ∧ v = .bool r ∧ Lr = []
theorem code_RightOp.calls {G : Gd} {r : Bool} {a0 : S40} {a1 : Int} {A1 : Option Addr} {c2 : Nat} (hr3 : Rd G (Kd.int .i64) A1 a0.f5) (hl4 : a0.f5.length ≤ c2) (h : code_RightOp.f a0 a1 = some r) : Fn Tryd.prog 17 G [] [.agg #[.int .i64 a0.f0, .int .i64 a0.f1, .int .i64 a0.f2, .int .i64 a0.f3, .int .i64 a0.f4, .slice A1 a0.f5.length c2], .int .i64 a1] (code_RightOp.post G  r) := by
 refine Fn.intro (e := [(0, .agg #[.int .i64 a0.f0, .int .i64 a0.f1, .int .i64 a0.f2, .int .i64 a0.f3, .int .i64 a0.f4, .slice A1 a0.f5.length c2]), (1, .int .i64 a1)]) 57 Tryd.func17 rfl Tryd.ntmps17 rfl rfl (Nat.le_of_ble_eq_true rfl) (fun L => ?_)
 unfold code_RightOp.f at h
 refine TC.seq ?_
 refine TC.region ?_
 refine TL.cons (TL.box (cs := [.int .i64 a0.f0, .int .i64 a0.f1, .int .i64 a0.f2, .int .i64 a0.f3, .int .i64 a0.f4, .slice A1 a0.f5.length c2]) rfl rfl rfl rfl (fun b5 => ?_))
 refine TL.cons (TO.val rfl rfl rfl (Val.assign rfl) ?_)
 refine TL.nil ?_
 refine TQ.then_ ?_
 refine TC.seq ?_
 refine TC.region ?_
 refine TL.cons (TO.val rfl rfl rfl (Val.fieldAddrB Tryd.underlying40 rfl fsz3 rfl rfl rfl) ?_)
 refine TL.cons (TO.val rfl rfl rfl (Val.loadB 0 agg3 rfl rfl rfl) ?_)
 obtain ⟨y6, hy7, h⟩ := bind_no h
 refine TL.cons (TL.callV (Lin := []) (args := [.int .i64 a0.f0]) rfl rfl rfl hbd50 rfl rfl (code_shapeOf.calls (a0 := a0.f0) hy7) rfl ?_)
 rintro _ _ _ _ ⟨rfl, rfl, rfl⟩
 refine TL.cons (TO.val rfl rfl rfl (Val.move rfl) ?_)
 refine TL.cons (TO.val rfl rfl rfl (Val.extract rfl rfl) ?_)
 refine TL.cons (TO.val rfl rfl rfl (Val.extract rfl rfl) ?_)
 refine TL.cons (TL.alloc (cs := [.bool false, .bool false, .bool false, .bool false]) rfl rfl zr70 rfl (fun b8 => ?_))
 refine TL.cons (TL.store 0 (ds := [.bool y6.1.f0, .bool y6.1.f1, .bool y6.1.f2, .bool y6.1.f3]) (cs' := [.bool y6.1.f0, .bool y6.1.f1, .bool y6.1.f2, .bool y6.1.f3]) (L' := (Blk b8 [.bool y6.1.f0, .bool y6.1.f1, .bool y6.1.f2, .bool y6.1.f3] 70 :: Blk b5 [.int .i64 a0.f0, .int .i64 a0.f1, .int .i64 a0.f2, .int .i64 a0.f3, .int .i64 a0.f4, .slice A1 a0.f5.length c2] 40 :: L)) rfl fsz70 rfl rfl rfl rfl rfl (Nat.le_of_ble_eq_true rfl) rfl rfl ?_)
 refine TL.cons (TO.val rfl rfl rfl (Val.assign rfl) ?_)
 refine TL.nil ?_
 refine TQ.then_ ?_
 refine TC.seq ?_
 refine TC.block ?_
 refine TC.seq ?_
 refine TC.seq ?_
 refine TC.region ?_
 refine TL.cons (TO.val rfl rfl rfl (Val.move rfl) ?_)
 refine TL.cons (TO.val rfl rfl rfl (Val.not_ rfl) ?_)
 refine TL.cons (TO.val rfl rfl rfl (Val.assign rfl) ?_)
 refine TL.nil ?_
 refine TQ.then_ ?_
 obtain ⟨j71, hj71, h⟩ := jn_no h
 refine TC.tail (fun a W => ∃ (x70 : Bool), j71 x70 = some r ∧ Fr 57 a [(2, .pointer (some ⟨b5, 0, none⟩)), (13, .bool x70)] ∧ Own G (Blk b5 [.int .i64 a0.f0, .int .i64 a0.f1, .int .i64 a0.f2, .int .i64 a0.f3, .int .i64 a0.f4, .slice A1 a0.f5.length c2] 40 :: L) W) ?_ ?_
 ·
  rintro a W ⟨x70, h, hF, hO⟩
  rw [hj71] at h
  refine TQ.use ?_ hF hO
  clear hF hO
  refine TQ.then_ ?_
  refine TC.cond_b rfl h (fun hc74 h => ?_) (fun hc74 h => ?_)
  ·
   refine TC.seq ?_
   refine TC.region ?_
   refine TL.cons (TO.val rfl rfl rfl (Val.assign rfl) ?_)
   refine TL.nil ?_
   refine TQ.then_ ?_
   refine TC.ret ?_
   refine TQ.inBR ?_
   refine TQ.thenR ?_
   obtain rfl := Option.some.inj h
   exact TQ.fin (.inl rfl) rfl Tryd.results17 (.tmp rfl .nil) rfl (FRel.mk (Ls := []) [] 1 (Gd.le.refl _) rfl rfl rfl ⟨rfl, rfl, rfl⟩)
  ·
   refine TC.seq ?_
   refine TC.region ?_
   refine TL.cons (TO.val rfl rfl rfl (Val.fieldAddrB Tryd.underlying40 rfl fsz3 rfl rfl rfl) ?_)
   refine TL.cons (TO.val rfl rfl rfl (Val.loadB 0 agg3 rfl rfl rfl) ?_)
   refine TL.cons (TO.val rfl rfl rfl (Val.cmp rfl rfl run_neq) ?_)
   refine TL.cons (TO.val rfl rfl rfl (Val.assign rfl) ?_)
   refine TL.nil ?_
   refine TQ.then_ ?_
   refine TC.cond_b rfl h (fun hc76 h => ?_) (fun hc76 h => ?_)
   ·
    refine TC.seq ?_
    refine TC.region ?_
    refine TL.cons (TO.val rfl rfl rfl (Val.fieldAddrB Tryd.underlying40 rfl fsz38 rfl rfl rfl) ?_)
    refine TL.cons (TO.val rfl rfl rfl (Val.loadB 0 agg38 rfl rfl rfl) ?_)
    refine TL.cons (TO.val rfl rfl rfl (Val.len Tryd.underlying38 rfl) ?_)
    refine TL.cons (TO.val rfl rfl rfl (Val.cmp rfl rfl run_eql) ?_)
    refine TL.cons (TO.val rfl rfl rfl (Val.assign rfl) ?_)
    refine TL.nil ?_
    refine TQ.then_ ?_
    refine TC.ret ?_
    refine TQ.inBR ?_
    refine TQ.thenR ?_
    obtain rfl := Option.some.inj h
    exact TQ.fin (.inl rfl) rfl Tryd.results17 (.tmp rfl .nil) rfl (FRel.mk (Ls := []) [] 1 (Gd.le.refl _) rfl rfl rfl ⟨rfl, rfl, rfl⟩)
   ·
    refine TC.skip ?_
    refine TQ.inB ?_
    refine TQ.then_ ?_
    refine TC.seq ?_
    refine TC.region ?_
    refine TL.cons (TO.val rfl rfl rfl (Val.fieldAddrB Tryd.underlying40 rfl fsz38 rfl rfl rfl) ?_)
    refine TL.cons (TO.val rfl rfl rfl (Val.loadB 0 agg38 rfl rfl rfl) ?_)
    refine TL.cons (TO.val rfl rfl rfl (Val.len Tryd.underlying38 rfl) ?_)
    refine TL.cons (TO.val rfl rfl rfl (Val.cmp rfl rfl run_leq) ?_)
    refine TL.cons (TO.val rfl rfl rfl (Val.move rfl) ?_)
    refine TK.split (p := (a0.f5.length : Int) ≤ 8) h (fun hg296 h => ?_) (fun hg296 h => ?_)
    ·
     have hk297 : decide ((a0.f5.length : Int) ≤ 8) = true := decide_eq_true hg296
     refine TL.cons (TO.val (Wt.yes rfl rfl rfl hk297) rfl rfl (Val.fieldAddrB Tryd.underlying40 rfl fsz38 rfl rfl rfl) ?_)
     refine TL.cons (TO.val (Wt.yes rfl rfl rfl hk297) rfl rfl (Val.loadB 0 agg38 rfl rfl rfl) ?_)
     refine TL.cons (TO.inl (args := [.slice A1 a0.f5.length c2, .func (.func 54) #[] #[]]) (e' := [(0, .slice A1 a0.f5.length c2), (1, .func (.func 54) #[] #[])]) 9 (Wt.yes rfl rfl rfl hk297) rfl hbd53 rfl rfl Tryd.func53 rfl Tryd.ntmps53 rfl rfl (Nat.le_of_ble_eq_true rfl) (fun a298 hf299 => ?_))
     refine TC.seq ?_
     refine TC.region ?_
     refine TL.cons (TO.val rfl rfl rfl (Val.assign rfl) ?_)
     refine TL.nil ?_
     refine TQ.then_ ?_
     refine TC.seq ?_
     refine TC.region ?_
     refine TL.cons (TO.val rfl rfl rfl (Val.move rfl) ?_)
     refine TL.cons (TO.val rfl rfl rfl (Val.move rfl) ?_)
     refine TL.cons (TO.inl (args := [.slice A1 a0.f5.length c2, .func (.func 54) #[] #[]]) (e' := [(0, .slice A1 a0.f5.length c2), (1, .func (.func 54) #[] #[])]) 19 rfl rfl hbd81 rfl rfl Tryd.func81 rfl Tryd.ntmps81 rfl rfl (Nat.le_of_ble_eq_true rfl) (fun a428 hf429 => ?_))
     obtain ⟨j514, hj514, h⟩ := jn_no h
     refine TC.after (fun en W => ∃ (x513 : Int), j514 x513 = some r ∧ en = .returned (.int .i64 x513) ∧ Own G (Blk b5 [.int .i64 a0.f0, .int .i64 a0.f1, .int .i64 a0.f2, .int .i64 a0.f3, .int .i64 a0.f4, .slice A1 a0.f5.length c2] 40 :: L) W) ?_ ?_
     ·
      rintro en W ⟨x513, h, rfl, hO⟩
      rw [hj514] at h
      refine (After.mk hf429 rfl ?_) W hO
      clear hO
      refine TL.cons (TO.val rfl rfl rfl (Val.cmp rfl rfl run_geq) ?_)
      refine TL.cons (TO.val rfl rfl rfl (Val.assign rfl) ?_)
      refine TL.nil ?_
      refine TQ.then_ ?_
      refine TC.ret ?_
      refine TQ.fin (v := .bool (decide (0 ≤ x513))) (.inl rfl) rfl Tryd.results53 (.tmp rfl .nil) rfl (After.mk hf299 rfl ?_)
      refine TL.cons (TO.val (Wt.yes rfl rfl rfl hk297) rfl rfl (Val.not_ rfl) ?_)
      refine TL.cons (TO.val rfl rfl rfl (Val.pickY rfl hk297 rfl) ?_)
      refine TL.cons (TO.val rfl rfl rfl (Val.assign rfl) ?_)
      refine TL.nil ?_
      refine TQ.then_ ?_
      refine TC.ret ?_
      obtain rfl := Option.some.inj h
      exact TQ.fin (.inl rfl) rfl Tryd.results17 (.tmp rfl .nil) rfl (FRel.mk (Ls := []) [] 1 (Gd.le.refl _) rfl rfl rfl ⟨rfl, rfl, rfl⟩)
     ·
      refine TC.seq ?_
      refine TC.region ?_
      refine TL.cons (TO.val rfl rfl rfl (Val.assign rfl) ?_)
      refine TL.nil ?_
      refine TQ.then_ ?_
      refine TC.seq ?_
      refine TC.seq ?_
      refine TC.region ?_
      refine TL.cons (TO.val rfl rfl rfl (Val.move rfl) ?_)
      refine TL.cons (TO.val rfl rfl rfl (Val.len Tryd.underlying38 rfl) ?_)
      refine TL.cons (TO.val rfl rfl rfl (Val.move rfl) ?_)
      refine TL.nil ?_
      refine TQ.then_ ?_
      obtain ⟨o601, ho601, ko601⟩ := bind_no h
      clear h
      refine TC.tail (fun a W => (.inr ()) = o601 ∧ Fr 19 a [] ∧ Own G (Blk b5 [.int .i64 a0.f0, .int .i64 a0.f1, .int .i64 a0.f2, .int .i64 a0.f3, .int .i64 a0.f4, .slice A1 a0.f5.length c2] 40 :: L) W) ?_ ?_
      ·
       rintro a W ⟨rfl, hF, hO⟩
       have h := ko601
       clear ko601 ho601
       refine TQ.use ?_ hF hO
       clear hF hO
       refine TQ.then_ ?_
       refine TC.seq ?_
       refine TC.region ?_
       refine TL.cons (TO.val rfl rfl rfl (Val.assign rfl) ?_)
       refine TL.nil ?_
       refine TQ.then_ ?_
       refine TC.ret ?_
       exact TQ.fin (v := .int .i64 (-1)) (.inl rfl) rfl Tryd.results81 (.tmp rfl .nil) rfl (fun W hO => ⟨(-1), h, rfl, hO.selT (Ls := [Blk b5 [.int .i64 a0.f0, .int .i64 a0.f1, .int .i64 a0.f2, .int .i64 a0.f3, .int .i64 a0.f4, .slice A1 a0.f5.length c2] 40]) [0] 1 rfl rfl rfl⟩)
      ·
       refine TC.block ?_
       intro a W hF hO
       have hS : ∃ (x572 : Int), code_RightOp.l0 a0 j514 (a0.f5.length + 1) x572 = some o601 ∧ Fr 19 a [(0, .slice A1 a0.f5.length c2), (1, .func (.func 54) #[] #[]), (7, .int .i64 (a0.f5.length : Int)), (8, .int .i64 x572)] ∧ Own G (Blk b5 [.int .i64 a0.f0, .int .i64 a0.f1, .int .i64 a0.f2, .int .i64 a0.f3, .int .i64 a0.f4, .slice A1 a0.f5.length c2] 40 :: L) W := by
        exact ⟨0, ho601, hF.sub ⟨rfl, rfl, rfl, rfl, trivial⟩, hO.selT (Ls := [Blk b5 [.int .i64 a0.f0, .int .i64 a0.f1, .int .i64 a0.f2, .int .i64 a0.f3, .int .i64 a0.f4, .slice A1 a0.f5.length c2] 40]) [0] 1 rfl rfl rfl⟩
       clear hF hO ho601
       refine TC.loop (fun n602 a W => ∃ (x572 : Int), code_RightOp.l0 a0 j514 n602 x572 = some o601 ∧ Fr 19 a [(0, .slice A1 a0.f5.length c2), (1, .func (.func 54) #[] #[]), (7, .int .i64 (a0.f5.length : Int)), (8, .int .i64 x572)] ∧ Own G (Blk b5 [.int .i64 a0.f0, .int .i64 a0.f1, .int .i64 a0.f2, .int .i64 a0.f3, .int .i64 a0.f4, .slice A1 a0.f5.length c2] 40 :: L) W) ?_ ?_ hS
       ·
        rintro a W ⟨x572, h, hF, hO⟩
        exact none_no h
       ·
        clear hS
        rintro n602 a W ⟨x572, h, hF, hO⟩
        rw [code_RightOp.l0] at h
        refine TC.use ?_ hF hO
        clear hF hO
        refine TC.seq ?_
        refine TC.region ?_
        refine TL.cons (TO.val rfl rfl rfl (Val.cmp rfl rfl run_lss) ?_)
        refine TL.nil ?_
        refine TQ.then_ ?_
        refine TC.seq ?_
        refine TC.cond_p rfl h (fun hc632 h => ?_) (fun hc632 h => ?_)
        ·
         refine TC.skip ?_
         refine TQ.then_ ?_
         refine TC.seq ?_
         refine TC.block ?_
         refine TC.seq ?_
         refine TC.region ?_
         refine TL.cons (TO.val rfl rfl rfl (Val.move rfl) ?_)
         refine TL.cons (TO.val rfl rfl rfl (Val.assign rfl) ?_)
         refine TL.nil ?_
         refine TQ.then_ ?_
         refine TC.seq ?_
         refine TC.region ?_
         refine TL.cons (TO.val rfl rfl rfl (Val.move rfl) ?_)
         refine TL.cons (TO.val rfl rfl rfl (Val.move rfl) ?_)
         refine TL.cons (TO.val rfl rfl rfl (Val.move rfl) ?_)
         obtain ⟨y646, hx647, h⟩ := bind_no h
         obtain ⟨ad648, cs654, hA649, hi650, hj651, hcl652, hK653⟩ := Rd.at hr3 hx647
         obtain rfl := RdK.int hK653
         refine TL.cons (TO.val rfl rfl rfl (Val.indexAddr Tryd.underlying38 fsz3 rfl hA649 rfl hi650 hj651) ?_)
         refine TL.cons (TO.val rfl rfl rfl (Val.loadS agg3 rfl (hcl652 0 _ rfl)) ?_)
         obtain ⟨y655, hy656, h⟩ := bind_no h
         refine TL.cons (TL.callV (Lin := []) (args := [.int .i64 y646]) rfl rfl rfl hbd54 rfl rfl (code_RightOp_1.calls (a0 := y646) hy656) rfl ?_)
         rintro _ _ _ _ ⟨rfl, rfl, rfl⟩
         refine TL.nil ?_
         refine TQ.then_ ?_
         refine TC.cond_b rfl h (fun hc658 h => ?_) (fun hc658 h => ?_)
         ·
          refine TC.seq ?_
          refine TC.region ?_
          refine TL.cons (TO.val rfl rfl rfl (Val.move rfl) ?_)
          refine TL.cons (TO.val rfl rfl rfl (Val.assign rfl) ?_)
          refine TL.nil ?_
          refine TQ.then_ ?_
          refine TC.ret ?_
          refine TQ.inBR ?_
          refine TQ.thenR ?_
          refine TQ.thenR ?_
          refine TQ.inBR ?_
          refine TQ.thenR ?_
          refine TQ.thenR ?_
          obtain ⟨q_, hq_, h⟩ := bind_no h
          obtain rfl := Option.some.inj h
          have h := ko601
          obtain rfl := Option.some.inj h
          have h := hq_
          clear hq_
          exact TQ.fin (v := .int .i64 x572) (.inl rfl) rfl Tryd.results81 (.tmp rfl .nil) rfl (fun W hO => ⟨x572, h, rfl, hO.selT (Ls := [Blk b5 [.int .i64 a0.f0, .int .i64 a0.f1, .int .i64 a0.f2, .int .i64 a0.f3, .int .i64 a0.f4, .slice A1 a0.f5.length c2] 40]) [0] 1 rfl rfl rfl⟩)
         ·
          refine TC.skip ?_
          refine TQ.inB ?_
          refine TQ.then_ ?_
          refine TC.region ?_
          refine TL.cons (TO.val rfl rfl rfl (Val.cmp rfl rfl run_add) ?_)
          refine TL.cons (TO.val rfl rfl rfl (Val.move rfl) ?_)
          refine TL.nil ?_
          exact fun a W hF hO => ⟨IntKind.i64.wrap (x572 + 1), h, hF.sub ⟨rfl, rfl, rfl, rfl, trivial⟩, hO.selT (Ls := [Blk b5 [.int .i64 a0.f0, .int .i64 a0.f1, .int .i64 a0.f2, .int .i64 a0.f3, .int .i64 a0.f4, .slice A1 a0.f5.length c2] 40]) [0] 1 rfl rfl rfl⟩
        ·
         refine TC.exit ?_
         refine TQ.thenX ?_
         refine TQ.thenX ?_
         refine TQ.inBX ?_
         exact fun a W hF hO => ⟨Option.some.inj h, hF.sub trivial, hO.selT (Ls := [Blk b5 [.int .i64 a0.f0, .int .i64 a0.f1, .int .i64 a0.f2, .int .i64 a0.f3, .int .i64 a0.f4, .slice A1 a0.f5.length c2] 40]) [0] 1 rfl rfl rfl⟩
    ·
     have hk659 : decide ((a0.f5.length : Int) ≤ 8) = false := decide_eq_false hg296
     refine TL.cons (TL.not (Wt.no rfl rfl rfl hk659) rfl ?_)
     refine TL.cons (TL.not (Wt.no rfl rfl rfl hk659) rfl ?_)
     refine TL.cons (TL.not (Wt.no rfl rfl rfl hk659) rfl ?_)
     refine TL.cons (TL.not (Wt.no rfl rfl rfl hk659) rfl ?_)
     refine TL.cons (TO.val rfl rfl rfl (Val.pickN rfl hk659 rfl) ?_)
     refine TL.cons (TO.val rfl rfl rfl (Val.assign rfl) ?_)
     refine TL.nil ?_
     refine TQ.then_ ?_
     refine TC.ret ?_
     obtain rfl := Option.some.inj h
     exact TQ.fin (.inl rfl) rfl Tryd.results17 (.tmp rfl .nil) rfl (FRel.mk (Ls := []) [] 1 (Gd.le.refl _) rfl rfl rfl ⟨rfl, rfl, rfl⟩)
 ·
  refine TC.cond_b rfl h (fun hc660 h => ?_) (fun hc660 h => ?_)
  ·
   refine TC.skip ?_
   exact fun a W hF hO => ⟨(!y6.2), h, hF.sub ⟨rfl, rfl, trivial⟩, hO.selT (Ls := [Blk b5 [.int .i64 a0.f0, .int .i64 a0.f1, .int .i64 a0.f2, .int .i64 a0.f3, .int .i64 a0.f4, .slice A1 a0.f5.length c2] 40]) [1] 2 rfl rfl rfl⟩
  ·
   refine TC.seq ?_
   refine TC.region ?_
   refine TL.cons (TO.val rfl rfl rfl (Val.fieldAddrB Tryd.underlying40 rfl fsz3 rfl rfl rfl) ?_)
   refine TL.cons (TO.val rfl rfl rfl (Val.loadB 1 agg3 rfl rfl rfl) ?_)
   refine TL.cons (TO.val rfl rfl rfl (Val.fieldAddrB Tryd.underlying70 rfl fsz4 rfl rfl rfl) ?_)
   refine TL.cons (TO.val rfl rfl rfl (Val.loadB 0 agg4 rfl rfl rfl) ?_)
   obtain ⟨y661, hy662, h⟩ := bind_no h
   refine TL.cons (TL.callV (Lin := []) (args := [.int .i64 a0.f1, .bool y6.1.f0]) rfl rfl rfl hbd51 rfl rfl (code_field.calls (a0 := a0.f1) (a1 := y6.1.f0) hy662) rfl ?_)
   rintro _ _ _ _ ⟨rfl, rfl, rfl⟩
   refine TL.cons (TO.val rfl rfl rfl (Val.not_ rfl) ?_)
   refine TL.cons (TO.val rfl rfl rfl (Val.assign rfl) ?_)
   refine TL.nil ?_
   refine TQ.then_ ?_
   refine TC.cond_b rfl h (fun hc672 h => ?_) (fun hc672 h => ?_)
   ·
    refine TC.skip ?_
    exact fun a W hF hO => ⟨(!y661), h, hF.sub ⟨rfl, rfl, trivial⟩, hO.selT (Ls := [Blk b5 [.int .i64 a0.f0, .int .i64 a0.f1, .int .i64 a0.f2, .int .i64 a0.f3, .int .i64 a0.f4, .slice A1 a0.f5.length c2] 40]) [1] 2 rfl rfl rfl⟩
   ·
    refine TC.seq ?_
    refine TC.region ?_
    refine TL.cons (TO.val rfl rfl rfl (Val.fieldAddrB Tryd.underlying40 rfl fsz3 rfl rfl rfl) ?_)
    refine TL.cons (TO.val rfl rfl rfl (Val.loadB 1 agg3 rfl rfl rfl) ?_)
    refine TL.cons (TO.val rfl rfl rfl (Val.fieldAddrB Tryd.underlying70 rfl fsz4 rfl rfl rfl) ?_)
    refine TL.cons (TO.val rfl rfl rfl (Val.loadB 0 agg4 rfl rfl rfl) ?_)
    obtain ⟨y673, hy674, h⟩ := bind_no h
    refine TL.cons (TL.callV (Lin := []) (args := [.int .i64 a0.f2, .bool y6.1.f1]) rfl rfl rfl hbd51 rfl rfl (code_field.calls (a0 := a0.f2) (a1 := y6.1.f1) hy674) rfl ?_)
    rintro _ _ _ _ ⟨rfl, rfl, rfl⟩
    refine TL.cons (TO.val rfl rfl rfl (Val.not_ rfl) ?_)
    refine TL.cons (TO.val rfl rfl rfl (Val.assign rfl) ?_)
    refine TL.nil ?_
    refine TQ.then_ ?_
    refine TC.cond_b rfl h (fun hc681 h => ?_) (fun hc681 h => ?_)
    ·
     refine TC.skip ?_
     exact fun a W hF hO => ⟨(!y673), h, hF.sub ⟨rfl, rfl, trivial⟩, hO.selT (Ls := [Blk b5 [.int .i64 a0.f0, .int .i64 a0.f1, .int .i64 a0.f2, .int .i64 a0.f3, .int .i64 a0.f4, .slice A1 a0.f5.length c2] 40]) [1] 2 rfl rfl rfl⟩
    ·
     refine TC.seq ?_
     refine TC.region ?_
     refine TL.cons (TO.val rfl rfl rfl (Val.fieldAddrB Tryd.underlying40 rfl fsz3 rfl rfl rfl) ?_)
     refine TL.cons (TO.val rfl rfl rfl (Val.loadB 1 agg3 rfl rfl rfl) ?_)
     refine TL.cons (TO.val rfl rfl rfl (Val.fieldAddrB Tryd.underlying70 rfl fsz4 rfl rfl rfl) ?_)
     refine TL.cons (TO.val rfl rfl rfl (Val.loadB 0 agg4 rfl rfl rfl) ?_)
     obtain ⟨y682, hy683, h⟩ := bind_no h
     refine TL.cons (TL.callV (Lin := []) (args := [.int .i64 a0.f3, .bool y6.1.f2]) rfl rfl rfl hbd51 rfl rfl (code_field.calls (a0 := a0.f3) (a1 := y6.1.f2) hy683) rfl ?_)
     rintro _ _ _ _ ⟨rfl, rfl, rfl⟩
     refine TL.cons (TO.val rfl rfl rfl (Val.not_ rfl) ?_)
     refine TL.cons (TO.val rfl rfl rfl (Val.assign rfl) ?_)
     refine TL.nil ?_
     refine TQ.then_ ?_
     refine TC.cond_b rfl h (fun hc687 h => ?_) (fun hc687 h => ?_)
     ·
      refine TC.skip ?_
      exact fun a W hF hO => ⟨(!y682), h, hF.sub ⟨rfl, rfl, trivial⟩, hO.selT (Ls := [Blk b5 [.int .i64 a0.f0, .int .i64 a0.f1, .int .i64 a0.f2, .int .i64 a0.f3, .int .i64 a0.f4, .slice A1 a0.f5.length c2] 40]) [1] 2 rfl rfl rfl⟩
     ·
      refine TC.region ?_
      refine TL.cons (TO.val rfl rfl rfl (Val.loadsB 1 (cs := [.int .i64 a0.f0, .int .i64 a0.f1, .int .i64 a0.f2, .int .i64 a0.f3, .int .i64 a0.f4, .slice A1 a0.f5.length c2]) agg40 fsz40 rfl rfl rfl rfl) ?_)
      refine TL.cons (TO.val rfl rfl rfl (Val.loadsB 0 (cs := [.bool y6.1.f0, .bool y6.1.f1, .bool y6.1.f2, .bool y6.1.f3]) agg70 fsz70 rfl rfl rfl rfl) ?_)
      refine TL.cons (TO.val rfl rfl rfl (Val.move rfl) ?_)
      obtain ⟨y688, hy689, h⟩ := bind_no h
      refine TL.cons (TL.callV (Lin := []) (args := [.agg #[.int .i64 a0.f0, .int .i64 a0.f1, .int .i64 a0.f2, .int .i64 a0.f3, .int .i64 a0.f4, .slice A1 a0.f5.length c2], .agg #[.bool y6.1.f0, .bool y6.1.f1, .bool y6.1.f2, .bool y6.1.f3], .int .i64 a1]) rfl rfl rfl hbd52 rfl rfl (code_immediate.calls (a0 := a0) (a1 := y6.1) (a2 := a1) hr3 hl4 hy689) rfl ?_)
      rintro _ _ _ _ ⟨rfl, rfl, rfl⟩
      refine TL.cons (TO.val rfl rfl rfl (Val.not_ rfl) ?_)
      refine TL.cons (TO.val rfl rfl rfl (Val.assign rfl) ?_)
      refine TL.nil ?_
      exact fun a W hF hO => ⟨(!y688), h, hF.sub ⟨rfl, rfl, trivial⟩, hO.selT (Ls := [Blk b5 [.int .i64 a0.f0, .int .i64 a0.f1, .int .i64 a0.f2, .int .i64 a0.f3, .int .i64 a0.f4, .slice A1 a0.f5.length c2] 40]) [1] 2 rfl rfl rfl⟩
end Go.Proofs.YtmacdhkfgoahcaaDoor.Sy
set_option linter.unusedVariables false
set_option linter.unusedSimpArgs false
set_option maxRecDepth 100000
set_option maxHeartbeats 4000000
namespace Go.Proofs.YtmacdhkfgoahcaaDoor.Sy
open Go Go.RowKit Go.Proofs.YtmacdhkfgoahcaaDoorW.PrintWords 
def code_rightTerm.f (a0 : S35) (a1 : Int) : Option Bool := (if a0.f0 = 1 then (code_within.f a0.f2 0 (IntKind.i64.wrap (a1 - 1))).bind fun (y359 : Bool) => (if y359 = true then some ((a0.f0 == a0.f0) && ((a0.f1 == 0) && ((a0.f2 == a0.f2) && (a0.f3 == 0)))) else some false) else (if a0.f0 = 2 then (code_within.f a0.f2 0 (IntKind.i64.wrap (a1 - 1))).bind fun (y452 : Bool) => (if y452 = true then (code_within.f a0.f3 0 (IntKind.i64.wrap (a1 - 1))).bind fun (y460 : Bool) => (if y460 = true then (code_reg.f a0.f1).bind fun (y464 : Bool) => some y464 else some false) else some false) else (if a0.f0 = 3 then (code_reg.f a0.f1).bind fun (y496 : Bool) => (if y496 = true then some ((a0.f0 == a0.f0) && ((a0.f1 == a0.f1) && ((a0.f2 == 0) && (a0.f3 == 0)))) else some false) else (if a0.f0 = 4 then (code_within.f a0.f2 1 15).bind fun (y518 : Bool) => (if y518 = true then some ((a0.f0 == a0.f0) && ((a0.f1 == 0) && ((a0.f2 == a0.f2) && (a0.f3 == 0)))) else some false) else some false))))
def code_rightTerm.post (G : Gd)  (r : Bool) (v : Value) (G' : Gd) (Lr : List Ch) : Prop := G = G' ∧ v = .bool r ∧ Lr = []
theorem code_rightTerm.calls {G : Gd} {r : Bool} {a0 : S35} {a1 : Int} (h : code_rightTerm.f a0 a1 = some r) : Fn Tryd.prog 49 G [] [.agg #[.int .i64 a0.f0, .int .i64 a0.f1, .int .i64 a0.f2, .int .i64 a0.f3], .int .i64 a1] (code_rightTerm.post G  r) := by
 refine Fn.intro (e := [(0, .agg #[.int .i64 a0.f0, .int .i64 a0.f1, .int .i64 a0.f2, .int .i64 a0.f3]), (1, .int .i64 a1)]) 69 Tryd.func49 rfl Tryd.ntmps49 rfl rfl (Nat.le_of_ble_eq_true rfl) (fun L => ?_)
 unfold code_rightTerm.f at h
 refine TC.seq ?_
 refine TC.region ?_
 refine TL.cons (TL.box (cs := [.int .i64 a0.f0, .int .i64 a0.f1, .int .i64 a0.f2, .int .i64 a0.f3]) rfl rfl rfl rfl (fun b1 => ?_))
 refine TL.cons (TL.box (cs := [.int .i64 a1]) rfl rfl rfl rfl (fun b2 => ?_))
 refine TL.cons (TO.val rfl rfl rfl (Val.assign rfl) ?_)
 refine TL.nil ?_
 refine TQ.then_ ?_
 refine TC.seq ?_
 refine TC.region ?_
 refine TL.cons (TO.val rfl rfl rfl (Val.makeFunc (xs := []) (ys := [.pointer (some ⟨b2, 0, none⟩)]) rfl rfl) ?_)
 refine TL.cons (TO.val rfl rfl rfl (Val.assign rfl) ?_)
 refine TL.nil ?_
 refine TQ.then_ ?_
 refine TC.seq ?_
 refine TC.seq ?_
 refine TC.region ?_
 refine TL.cons (TO.val rfl rfl rfl (Val.fieldAddrB Tryd.underlying35 rfl fsz3 rfl rfl rfl) ?_)
 refine TL.cons (TO.val rfl rfl rfl (Val.loadB 1 agg3 rfl rfl rfl) ?_)
 refine TL.nil ?_
 refine TQ.then_ ?_
 refine TC.block ?_
 refine TC.seq ?_
 refine TC.region ?_
 refine TL.cons (TO.val rfl rfl rfl (Val.cmp rfl rfl run_eql) ?_)
 refine TL.cons (TO.val rfl rfl rfl (Val.assign rfl) ?_)
 refine TL.nil ?_
 refine TQ.then_ ?_
 refine TC.cond_p rfl h (fun hc345 h => ?_) (fun hc345 h => ?_)
 ·
  refine TC.seq ?_
  refine TC.region ?_
  refine TL.cons (TO.val rfl rfl rfl (Val.move rfl) ?_)
  refine TL.cons (TO.val rfl rfl rfl (Val.fieldAddrB Tryd.underlying35 rfl fsz3 rfl rfl rfl) ?_)
  refine TL.cons (TO.val rfl rfl rfl (Val.loadB 1 agg3 rfl rfl rfl) ?_)
  refine TL.cons (TO.inl (args := [.int .i64 a0.f2, .pointer (some ⟨b2, 0, none⟩)]) (e' := [(0, .int .i64 a0.f2), (1, .pointer (some ⟨b2, 0, none⟩))]) 8 rfl rfl hbd79 rfl rfl Tryd.func79 rfl Tryd.ntmps79 rfl rfl (Nat.le_of_ble_eq_true rfl) (fun a355 hf356 => ?_))
  refine TC.seq ?_
  refine TC.region ?_
  refine TL.cons (TO.val rfl rfl rfl (Val.assign rfl) ?_)
  refine TL.nil ?_
  refine TQ.then_ ?_
  refine TC.seq ?_
  refine TC.region ?_
  refine TL.cons (TO.val rfl rfl rfl (Val.move rfl) ?_)
  refine TL.cons (TO.val rfl rfl rfl (Val.loadB 0 agg3 rfl rfl rfl) ?_)
  refine TL.cons (TO.val rfl rfl rfl (Val.cmp rfl rfl run_sub) ?_)
  obtain ⟨y359, hy360, h⟩ := bind_no h
  refine TL.cons (TL.callV (Lin := []) (args := [.int .i64 a0.f2, .int .i64 0, .int .i64 (IntKind.i64.wrap (a1 - 1))]) rfl rfl rfl hbd45 rfl rfl (code_within.calls (a0 := a0.f2) (a1 := 0) (a2 := IntKind.i64.wrap (a1 - 1)) hy360) rfl ?_)
  rintro _ _ _ _ ⟨rfl, rfl, rfl⟩
  refine TL.cons (TO.val rfl rfl rfl (Val.assign rfl) ?_)
  refine TL.nil ?_
  refine TQ.then_ ?_
  refine TC.ret ?_
  refine TQ.fin (v := .bool y359) (.inl rfl) rfl Tryd.results79 (.tmp rfl .nil) rfl (After.mk hf356 rfl ?_)
  refine TL.cons (TO.val rfl rfl rfl (Val.move rfl) ?_)
  refine TK.split (p := y359 = true) h (fun hg361 h => ?_) (fun hg361 h => ?_)
  ·
   have hk362 : y359 = true := hg361
   refine TL.cons (TO.val (Wt.yes rfl rfl rfl hk362) rfl rfl (Val.loadsB 1 (cs := [.int .i64 a0.f0, .int .i64 a0.f1, .int .i64 a0.f2, .int .i64 a0.f3]) agg35 fsz35 rfl rfl rfl rfl) ?_)
   refine TL.cons (TO.val (Wt.yes rfl rfl rfl hk362) rfl rfl (Val.fieldAddrB Tryd.underlying35 rfl fsz3 rfl rfl rfl) ?_)
   refine TL.cons (TO.val (Wt.yes rfl rfl rfl hk362) rfl rfl (Val.loadB 1 agg3 rfl rfl rfl) ?_)
   refine TL.cons (TO.val (Wt.yes rfl rfl rfl hk362) rfl rfl (Val.fieldAddrB Tryd.underlying35 rfl fsz3 rfl rfl rfl) ?_)
   refine TL.cons (TO.val (Wt.yes rfl rfl rfl hk362) rfl rfl (Val.loadB 1 agg3 rfl rfl rfl) ?_)
   refine TL.cons (TO.val (Wt.yes rfl rfl rfl hk362) rfl rfl (Val.build (cs := [.int .i64 a0.f0, .int .i64 0, .int .i64 a0.f2, .int .i64 0]) (is := [0, 2]) (xs := [.tmp 18, .tmp 20]) Tryd.underlying35 zr35 bld35 rfl rfl rfl rfl) ?_)
   refine TL.cons (TO.val (Wt.yes rfl rfl rfl hk362) rfl rfl (Val.eqA eqg35 rfl rfl (fun W => eqs35 9998 W _ _ _ _ _ _ _ _)) ?_)
   refine TL.cons (TO.val rfl rfl rfl (Val.pickY rfl hk362 rfl) ?_)
   refine TL.cons (TO.val rfl rfl rfl (Val.assign rfl) ?_)
   refine TL.nil ?_
   refine TQ.then_ ?_
   refine TC.ret ?_
   refine TQ.inBR ?_
   refine TQ.thenR ?_
   obtain rfl := Option.some.inj h
   exact TQ.fin (.inl rfl) rfl Tryd.results49 (.tmp rfl .nil) rfl (FRel.mk (Ls := []) [] 2 (Gd.le.refl _) rfl rfl rfl ⟨rfl, rfl, rfl⟩)
  ·
   have hk363 : y359 = false := (by simpa using hg361)
   refine TL.cons (TL.not (Wt.no rfl rfl rfl hk363) rfl ?_)
   refine TL.cons (TL.not (Wt.no rfl rfl rfl hk363) rfl ?_)
   refine TL.cons (TL.not (Wt.no rfl rfl rfl hk363) rfl ?_)
   refine TL.cons (TL.not (Wt.no rfl rfl rfl hk363) rfl ?_)
   refine TL.cons (TL.not (Wt.no rfl rfl rfl hk363) rfl ?_)
   refine TL.cons (TL.not (Wt.no rfl rfl rfl hk363) rfl ?_)
   refine TL.cons (TL.not (Wt.no rfl rfl rfl hk363) rfl ?_)
   refine TL.cons (TO.val rfl rfl rfl (Val.pickN rfl hk363 rfl) ?_)
   refine TL.cons (TO.val rfl rfl rfl (Val.assign rfl) ?_)
   refine TL.nil ?_
   refine TQ.then_ ?_
   refine TC.ret ?_
   refine TQ.inBR ?_
   refine TQ.thenR ?_
   obtain rfl := Option.some.inj h
   exact TQ.fin (.inl rfl) rfl Tryd.results49 (.tmp rfl .nil) rfl (FRel.mk (Ls := []) [] 2 (Gd.le.refl _) rfl rfl rfl ⟨rfl, rfl, rfl⟩)
 ·
  refine TC.seq ?_
  refine TC.region ?_
  refine TL.cons (TO.val rfl rfl rfl (Val.cmp rfl rfl run_eql) ?_)
  refine TL.cons (TO.val rfl rfl rfl (Val.assign rfl) ?_)
  refine TL.nil ?_
  refine TQ.then_ ?_
  refine TC.cond_p rfl h (fun hc427 h => ?_) (fun hc427 h => ?_)
  ·
   refine TC.seq ?_
   refine TC.region ?_
   refine TL.cons (TO.val rfl rfl rfl (Val.move rfl) ?_)
   refine TL.cons (TO.val rfl rfl rfl (Val.fieldAddrB Tryd.underlying35 rfl fsz3 rfl rfl rfl) ?_)
   refine TL.cons (TO.val rfl rfl rfl (Val.loadB 1 agg3 rfl rfl rfl) ?_)
   refine TL.cons (TO.inl (args := [.int .i64 a0.f2, .pointer (some ⟨b2, 0, none⟩)]) (e' := [(0, .int .i64 a0.f2), (1, .pointer (some ⟨b2, 0, none⟩))]) 8 rfl rfl hbd79 rfl rfl Tryd.func79 rfl Tryd.ntmps79 rfl rfl (Nat.le_of_ble_eq_true rfl) (fun a448 hf449 => ?_))
   refine TC.seq ?_
   refine TC.region ?_
   refine TL.cons (TO.val rfl rfl rfl (Val.assign rfl) ?_)
   refine TL.nil ?_
   refine TQ.then_ ?_
   refine TC.seq ?_
   refine TC.region ?_
   refine TL.cons (TO.val rfl rfl rfl (Val.move rfl) ?_)
   refine TL.cons (TO.val rfl rfl rfl (Val.loadB 0 agg3 rfl rfl rfl) ?_)
   refine TL.cons (TO.val rfl rfl rfl (Val.cmp rfl rfl run_sub) ?_)
   obtain ⟨y452, hy453, h⟩ := bind_no h
   refine TL.cons (TL.callV (Lin := []) (args := [.int .i64 a0.f2, .int .i64 0, .int .i64 (IntKind.i64.wrap (a1 - 1))]) rfl rfl rfl hbd45 rfl rfl (code_within.calls (a0 := a0.f2) (a1 := 0) (a2 := IntKind.i64.wrap (a1 - 1)) hy453) rfl ?_)
   rintro _ _ _ _ ⟨rfl, rfl, rfl⟩
   refine TL.cons (TO.val rfl rfl rfl (Val.assign rfl) ?_)
   refine TL.nil ?_
   refine TQ.then_ ?_
   refine TC.ret ?_
   refine TQ.fin (v := .bool y452) (.inl rfl) rfl Tryd.results79 (.tmp rfl .nil) rfl (After.mk hf449 rfl ?_)
   refine TL.cons (TO.val rfl rfl rfl (Val.move rfl) ?_)
   refine TK.split (p := y452 = true) h (fun hg454 h => ?_) (fun hg454 h => ?_)
   ·
    have hk455 : y452 = true := hg454
    refine TL.cons (TO.val (Wt.yes rfl rfl rfl hk455) rfl rfl (Val.move rfl) ?_)
    refine TL.cons (TO.val (Wt.yes rfl rfl rfl hk455) rfl rfl (Val.fieldAddrB Tryd.underlying35 rfl fsz3 rfl rfl rfl) ?_)
    refine TL.cons (TO.val (Wt.yes rfl rfl rfl hk455) rfl rfl (Val.loadB 1 agg3 rfl rfl rfl) ?_)
    refine TL.cons (TO.inl (args := [.int .i64 a0.f3, .pointer (some ⟨b2, 0, none⟩)]) (e' := [(0, .int .i64 a0.f3), (1, .pointer (some ⟨b2, 0, none⟩))]) 8 (Wt.yes rfl rfl rfl hk455) rfl hbd79 rfl rfl Tryd.func79 rfl Tryd.ntmps79 rfl rfl (Nat.le_of_ble_eq_true rfl) (fun a456 hf457 => ?_))
    refine TC.seq ?_
    refine TC.region ?_
    refine TL.cons (TO.val rfl rfl rfl (Val.assign rfl) ?_)
    refine TL.nil ?_
    refine TQ.then_ ?_
    refine TC.seq ?_
    refine TC.region ?_
    refine TL.cons (TO.val rfl rfl rfl (Val.move rfl) ?_)
    refine TL.cons (TO.val rfl rfl rfl (Val.loadB 0 agg3 rfl rfl rfl) ?_)
    refine TL.cons (TO.val rfl rfl rfl (Val.cmp rfl rfl run_sub) ?_)
    obtain ⟨y460, hy461, h⟩ := bind_no h
    refine TL.cons (TL.callV (Lin := []) (args := [.int .i64 a0.f3, .int .i64 0, .int .i64 (IntKind.i64.wrap (a1 - 1))]) rfl rfl rfl hbd45 rfl rfl (code_within.calls (a0 := a0.f3) (a1 := 0) (a2 := IntKind.i64.wrap (a1 - 1)) hy461) rfl ?_)
    rintro _ _ _ _ ⟨rfl, rfl, rfl⟩
    refine TL.cons (TO.val rfl rfl rfl (Val.assign rfl) ?_)
    refine TL.nil ?_
    refine TQ.then_ ?_
    refine TC.ret ?_
    refine TQ.fin (v := .bool y460) (.inl rfl) rfl Tryd.results79 (.tmp rfl .nil) rfl (After.mk hf457 rfl ?_)
    refine TL.cons (TO.val rfl rfl rfl (Val.pickY rfl hk455 rfl) ?_)
    refine TL.cons (TO.val rfl rfl rfl (Val.move rfl) ?_)
    refine TK.split (p := y460 = true) h (fun hg462 h => ?_) (fun hg462 h => ?_)
    ·
     have hk463 : y460 = true := hg462
     refine TL.cons (TO.val (Wt.yes rfl rfl rfl hk463) rfl rfl (Val.fieldAddrB Tryd.underlying35 rfl fsz3 rfl rfl rfl) ?_)
     refine TL.cons (TO.val (Wt.yes rfl rfl rfl hk463) rfl rfl (Val.loadB 1 agg3 rfl rfl rfl) ?_)
     obtain ⟨y464, hy465, h⟩ := bind_no h
     refine TL.cons (TL.callV (Lin := []) (args := [.int .i64 a0.f1]) (Wt.yes rfl rfl rfl hk463) rfl rfl hbd55 rfl rfl (code_reg.calls (a0 := a0.f1) hy465) rfl ?_)
     rintro _ _ _ _ ⟨rfl, rfl, rfl⟩
     refine TL.cons (TO.val rfl rfl rfl (Val.pickY rfl hk463 rfl) ?_)
     refine TL.cons (TO.val rfl rfl rfl (Val.assign rfl) ?_)
     refine TL.nil ?_
     refine TQ.then_ ?_
     refine TC.ret ?_
     refine TQ.inBR ?_
     refine TQ.thenR ?_
     obtain rfl := Option.some.inj h
     exact TQ.fin (.inl rfl) rfl Tryd.results49 (.tmp rfl .nil) rfl (FRel.mk (Ls := []) [] 2 (Gd.le.refl _) rfl rfl rfl ⟨rfl, rfl, rfl⟩)
    ·
     have hk466 : y460 = false := (by simpa using hg462)
     refine TL.cons (TL.not (Wt.no rfl rfl rfl hk466) rfl ?_)
     refine TL.cons (TL.not (Wt.no rfl rfl rfl hk466) rfl ?_)
     refine TL.cons (TL.not (Wt.no rfl rfl rfl hk466) rfl ?_)
     refine TL.cons (TO.val rfl rfl rfl (Val.pickN rfl hk466 rfl) ?_)
     refine TL.cons (TO.val rfl rfl rfl (Val.assign rfl) ?_)
     refine TL.nil ?_
     refine TQ.then_ ?_
     refine TC.ret ?_
     refine TQ.inBR ?_
     refine TQ.thenR ?_
     obtain rfl := Option.some.inj h
     exact TQ.fin (.inl rfl) rfl Tryd.results49 (.tmp rfl .nil) rfl (FRel.mk (Ls := []) [] 2 (Gd.le.refl _) rfl rfl rfl ⟨rfl, rfl, rfl⟩)
   ·
    have hk467 : y452 = false := (by simpa using hg454)
    refine TL.cons (TL.not (Wt.no rfl rfl rfl hk467) rfl ?_)
    refine TL.cons (TL.not (Wt.no rfl rfl rfl hk467) rfl ?_)
    refine TL.cons (TL.not (Wt.no rfl rfl rfl hk467) rfl ?_)
    refine TL.cons (TL.not (Wt.no rfl rfl rfl hk467) rfl ?_)
    refine TL.cons (TO.val rfl rfl rfl (Val.pickN rfl hk467 rfl) ?_)
    refine TL.cons (TO.val rfl rfl rfl (Val.move rfl) ?_)
    refine TL.cons (TL.not (Wt.no rfl rfl rfl rfl) rfl ?_)
    refine TL.cons (TL.not (Wt.no rfl rfl rfl rfl) rfl ?_)
    refine TL.cons (TL.not (Wt.no rfl rfl rfl rfl) rfl ?_)
    refine TL.cons (TO.val rfl rfl rfl (Val.pickN rfl rfl rfl) ?_)
    refine TL.cons (TO.val rfl rfl rfl (Val.assign rfl) ?_)
    refine TL.nil ?_
    refine TQ.then_ ?_
    refine TC.ret ?_
    refine TQ.inBR ?_
    refine TQ.thenR ?_
    obtain rfl := Option.some.inj h
    exact TQ.fin (.inl rfl) rfl Tryd.results49 (.tmp rfl .nil) rfl (FRel.mk (Ls := []) [] 2 (Gd.le.refl _) rfl rfl rfl ⟨rfl, rfl, rfl⟩)
  ·
   refine TC.seq ?_
   refine TC.region ?_
   refine TL.cons (TO.val rfl rfl rfl (Val.cmp rfl rfl run_eql) ?_)
   refine TL.cons (TO.val rfl rfl rfl (Val.assign rfl) ?_)
   refine TL.nil ?_
   refine TQ.then_ ?_
   refine TC.cond_p rfl h (fun hc490 h => ?_) (fun hc490 h => ?_)
   ·
    refine TC.seq ?_
    refine TC.region ?_
    refine TL.cons (TO.val rfl rfl rfl (Val.fieldAddrB Tryd.underlying35 rfl fsz3 rfl rfl rfl) ?_)
    refine TL.cons (TO.val rfl rfl rfl (Val.loadB 1 agg3 rfl rfl rfl) ?_)
    obtain ⟨y496, hy497, h⟩ := bind_no h
    refine TL.cons (TL.callV (Lin := []) (args := [.int .i64 a0.f1]) rfl rfl rfl hbd55 rfl rfl (code_reg.calls (a0 := a0.f1) hy497) rfl ?_)
    rintro _ _ _ _ ⟨rfl, rfl, rfl⟩
    refine TL.cons (TO.val rfl rfl rfl (Val.move rfl) ?_)
    refine TK.split (p := y496 = true) h (fun hg498 h => ?_) (fun hg498 h => ?_)
    ·
     have hk499 : y496 = true := hg498
     refine TL.cons (TO.val (Wt.yes rfl rfl rfl hk499) rfl rfl (Val.loadsB 1 (cs := [.int .i64 a0.f0, .int .i64 a0.f1, .int .i64 a0.f2, .int .i64 a0.f3]) agg35 fsz35 rfl rfl rfl rfl) ?_)
     refine TL.cons (TO.val (Wt.yes rfl rfl rfl hk499) rfl rfl (Val.fieldAddrB Tryd.underlying35 rfl fsz3 rfl rfl rfl) ?_)
     refine TL.cons (TO.val (Wt.yes rfl rfl rfl hk499) rfl rfl (Val.loadB 1 agg3 rfl rfl rfl) ?_)
     refine TL.cons (TO.val (Wt.yes rfl rfl rfl hk499) rfl rfl (Val.fieldAddrB Tryd.underlying35 rfl fsz3 rfl rfl rfl) ?_)
     refine TL.cons (TO.val (Wt.yes rfl rfl rfl hk499) rfl rfl (Val.loadB 1 agg3 rfl rfl rfl) ?_)
     refine TL.cons (TO.val (Wt.yes rfl rfl rfl hk499) rfl rfl (Val.build (cs := [.int .i64 a0.f0, .int .i64 a0.f1, .int .i64 0, .int .i64 0]) (is := [0, 1]) (xs := [.tmp 49, .tmp 51]) Tryd.underlying35 zr35 bld35 rfl rfl rfl rfl) ?_)
     refine TL.cons (TO.val (Wt.yes rfl rfl rfl hk499) rfl rfl (Val.eqA eqg35 rfl rfl (fun W => eqs35 9998 W _ _ _ _ _ _ _ _)) ?_)
     refine TL.cons (TO.val rfl rfl rfl (Val.pickY rfl hk499 rfl) ?_)
     refine TL.cons (TO.val rfl rfl rfl (Val.assign rfl) ?_)
     refine TL.nil ?_
     refine TQ.then_ ?_
     refine TC.ret ?_
     refine TQ.inBR ?_
     refine TQ.thenR ?_
     obtain rfl := Option.some.inj h
     exact TQ.fin (.inl rfl) rfl Tryd.results49 (.tmp rfl .nil) rfl (FRel.mk (Ls := []) [] 2 (Gd.le.refl _) rfl rfl rfl ⟨rfl, rfl, rfl⟩)
    ·
     have hk500 : y496 = false := (by simpa using hg498)
     refine TL.cons (TL.not (Wt.no rfl rfl rfl hk500) rfl ?_)
     refine TL.cons (TL.not (Wt.no rfl rfl rfl hk500) rfl ?_)
     refine TL.cons (TL.not (Wt.no rfl rfl rfl hk500) rfl ?_)
     refine TL.cons (TL.not (Wt.no rfl rfl rfl hk500) rfl ?_)
     refine TL.cons (TL.not (Wt.no rfl rfl rfl hk500) rfl ?_)
     refine TL.cons (TL.not (Wt.no rfl rfl rfl hk500) rfl ?_)
     refine TL.cons (TL.not (Wt.no rfl rfl rfl hk500) rfl ?_)
     refine TL.cons (TO.val rfl rfl rfl (Val.pickN rfl hk500 rfl) ?_)
     refine TL.cons (TO.val rfl rfl rfl (Val.assign rfl) ?_)
     refine TL.nil ?_
     refine TQ.then_ ?_
     refine TC.ret ?_
     refine TQ.inBR ?_
     refine TQ.thenR ?_
     obtain rfl := Option.some.inj h
     exact TQ.fin (.inl rfl) rfl Tryd.results49 (.tmp rfl .nil) rfl (FRel.mk (Ls := []) [] 2 (Gd.le.refl _) rfl rfl rfl ⟨rfl, rfl, rfl⟩)
   ·
    refine TC.seq ?_
    refine TC.region ?_
    refine TL.cons (TO.val rfl rfl rfl (Val.cmp rfl rfl run_eql) ?_)
    refine TL.cons (TO.val rfl rfl rfl (Val.assign rfl) ?_)
    refine TL.nil ?_
    refine TQ.then_ ?_
    refine TC.cond_p rfl h (fun hc512 h => ?_) (fun hc512 h => ?_)
    ·
     refine TC.seq ?_
     refine TC.region ?_
     refine TL.cons (TO.val rfl rfl rfl (Val.fieldAddrB Tryd.underlying35 rfl fsz3 rfl rfl rfl) ?_)
     refine TL.cons (TO.val rfl rfl rfl (Val.loadB 1 agg3 rfl rfl rfl) ?_)
     obtain ⟨y518, hy519, h⟩ := bind_no h
     refine TL.cons (TL.callV (Lin := []) (args := [.int .i64 a0.f2, .int .i64 1, .int .i64 15]) rfl rfl rfl hbd45 rfl rfl (code_within.calls (a0 := a0.f2) (a1 := 1) (a2 := 15) hy519) rfl ?_)
     rintro _ _ _ _ ⟨rfl, rfl, rfl⟩
     refine TL.cons (TO.val rfl rfl rfl (Val.move rfl) ?_)
     refine TK.split (p := y518 = true) h (fun hg520 h => ?_) (fun hg520 h => ?_)
     ·
      have hk521 : y518 = true := hg520
      refine TL.cons (TO.val (Wt.yes rfl rfl rfl hk521) rfl rfl (Val.loadsB 1 (cs := [.int .i64 a0.f0, .int .i64 a0.f1, .int .i64 a0.f2, .int .i64 a0.f3]) agg35 fsz35 rfl rfl rfl rfl) ?_)
      refine TL.cons (TO.val (Wt.yes rfl rfl rfl hk521) rfl rfl (Val.fieldAddrB Tryd.underlying35 rfl fsz3 rfl rfl rfl) ?_)
      refine TL.cons (TO.val (Wt.yes rfl rfl rfl hk521) rfl rfl (Val.loadB 1 agg3 rfl rfl rfl) ?_)
      refine TL.cons (TO.val (Wt.yes rfl rfl rfl hk521) rfl rfl (Val.fieldAddrB Tryd.underlying35 rfl fsz3 rfl rfl rfl) ?_)
      refine TL.cons (TO.val (Wt.yes rfl rfl rfl hk521) rfl rfl (Val.loadB 1 agg3 rfl rfl rfl) ?_)
      refine TL.cons (TO.val (Wt.yes rfl rfl rfl hk521) rfl rfl (Val.build (cs := [.int .i64 a0.f0, .int .i64 0, .int .i64 a0.f2, .int .i64 0]) (is := [0, 2]) (xs := [.tmp 63, .tmp 65]) Tryd.underlying35 zr35 bld35 rfl rfl rfl rfl) ?_)
      refine TL.cons (TO.val (Wt.yes rfl rfl rfl hk521) rfl rfl (Val.eqA eqg35 rfl rfl (fun W => eqs35 9998 W _ _ _ _ _ _ _ _)) ?_)
      refine TL.cons (TO.val rfl rfl rfl (Val.pickY rfl hk521 rfl) ?_)
      refine TL.cons (TO.val rfl rfl rfl (Val.assign rfl) ?_)
      refine TL.nil ?_
      refine TQ.then_ ?_
      refine TC.ret ?_
      refine TQ.inBR ?_
      refine TQ.thenR ?_
      obtain rfl := Option.some.inj h
      exact TQ.fin (.inl rfl) rfl Tryd.results49 (.tmp rfl .nil) rfl (FRel.mk (Ls := []) [] 2 (Gd.le.refl _) rfl rfl rfl ⟨rfl, rfl, rfl⟩)
     ·
      have hk522 : y518 = false := (by simpa using hg520)
      refine TL.cons (TL.not (Wt.no rfl rfl rfl hk522) rfl ?_)
      refine TL.cons (TL.not (Wt.no rfl rfl rfl hk522) rfl ?_)
      refine TL.cons (TL.not (Wt.no rfl rfl rfl hk522) rfl ?_)
      refine TL.cons (TL.not (Wt.no rfl rfl rfl hk522) rfl ?_)
      refine TL.cons (TL.not (Wt.no rfl rfl rfl hk522) rfl ?_)
      refine TL.cons (TL.not (Wt.no rfl rfl rfl hk522) rfl ?_)
      refine TL.cons (TL.not (Wt.no rfl rfl rfl hk522) rfl ?_)
      refine TL.cons (TO.val rfl rfl rfl (Val.pickN rfl hk522 rfl) ?_)
      refine TL.cons (TO.val rfl rfl rfl (Val.assign rfl) ?_)
      refine TL.nil ?_
      refine TQ.then_ ?_
      refine TC.ret ?_
      refine TQ.inBR ?_
      refine TQ.thenR ?_
      obtain rfl := Option.some.inj h
      exact TQ.fin (.inl rfl) rfl Tryd.results49 (.tmp rfl .nil) rfl (FRel.mk (Ls := []) [] 2 (Gd.le.refl _) rfl rfl rfl ⟨rfl, rfl, rfl⟩)
    ·
     refine TC.skip ?_
     refine TQ.inB ?_
     refine TQ.then_ ?_
     refine TC.seq ?_
     refine TC.region ?_
     refine TL.cons (TO.val rfl rfl rfl (Val.assign rfl) ?_)
     refine TL.nil ?_
     refine TQ.then_ ?_
     refine TC.ret ?_
     obtain rfl := Option.some.inj h
     exact TQ.fin (.inl rfl) rfl Tryd.results49 (.tmp rfl .nil) rfl (FRel.mk (Ls := []) [] 2 (Gd.le.refl _) rfl rfl rfl ⟨rfl, rfl, rfl⟩)
end Go.Proofs.YtmacdhkfgoahcaaDoor.Sy
set_option linter.unusedVariables false
set_option linter.unusedSimpArgs false
set_option maxRecDepth 100000
set_option maxHeartbeats 4000000
namespace Go.Proofs.YtmacdhkfgoahcaaDoor.Sy
open Go Go.RowKit Go.Proofs.YtmacdhkfgoahcaaDoorW.PrintWords 
def code_Right.l1 (a1 : Int) (y2387 : S37) : Nat → Int → Int → Option (Sum (Sum Bool (Int)) (Int))
 | 0, _, _ => none
 | n2662 + 1, x2573, x2574 => (if x2573 < (y2387.f0.length : Int) then (at? y2387.f0 x2573).bind fun y2794 => jn (γ := (Sum (Sum Bool (Int)) (Int))) (fun (x2830 : Bool) => (if x2830 = true then some (.inl (.inl false)) else code_Right.l1 a1 y2387 n2662 (IntKind.i64.wrap (x2573 + 1)) (IntKind.i64.wrap (x2574 + 1)))) (fun (j2831 : (Bool → Option (Sum (Sum Bool (Int)) (Int)))) => (if 16384 < (IntKind.i64.wrap (x2574 + 1)) then j2831 true else (code_RightOp.f y2794 a1).bind fun (y2838 : Bool) => j2831 (!y2838))) else some (.inr x2574))
def code_Right.l0 (a0 : S27) (a1 : Int) : Nat → Int → Int → Option (Sum Bool (Int))
 | 0, _, _ => none
 | n1880 + 1, x1575, x1576 => (if x1575 < (a0.f1.length : Int) then (at? a0.f1 x1575).bind fun y2387 => (code_Right.l1 a1 y2387 (y2387.f0.length + 1) 0 x1576).bind fun | .inl q_ => some q_ | .inr x2660 => (code_Right.l0 a0 a1 n1880 (IntKind.i64.wrap (x1575 + 1)) x2660) else some (.inr x1576))
def code_Right.l2 (a0 : S27) (j387 : (Int → Option Bool)) : Nat → Int → Option (Sum Bool (Unit))
 | 0, _ => none
 | n2987 + 1, x2937 => (if x2937 < (a0.f1.length : Int) then (at? a0.f1 x2937).bind fun y3061 => (code_rightTerm.f y3061.f1 (a0.f1.length : Int)).bind fun (y3080 : Bool) => (if (!y3080) = true then (j387 x2937).bind fun q_ => some (.inl q_) else code_Right.l2 a0 j387 n2987 (IntKind.i64.wrap (x2937 + 1))) else some (.inr ()))
def code_Right.f (a0 : S27) (a1 : Int) : Option Bool := jn (γ := Bool) (fun (x16 : Bool) => (if x16 = true then some false else jn (γ := Bool) (fun (x386 : Int) => (if 0 ≤ x386 then some false else (code_Right.l0 a0 a1 (a0.f1.length + 1) 0 0).bind fun | .inl q_ => some q_ | .inr x1878 => (some true))) (fun (j387 : (Int → Option Bool)) => (code_Right.l2 a0 j387 (a0.f1.length + 1) 0).bind fun | .inl q_ => some q_ | .inr _ => (j387 (-1))))) (fun (j17 : (Bool → Option Bool)) => (code_within.f (a0.f1.length : Int) 1 4096).bind fun (y3084 : Bool) => (if (!y3084) = true then j17 true else (code_within.f a0.f0 0 8).bind fun (y3089 : Bool) => j17 (!y3089)))
def code_Right.post (G : Gd)  (r : Bool) (v : Value) (G' : Gd) (Lr : List Ch) : Prop := G = G' ∧ v = .bool r ∧ Lr = []
theorem code_Right.calls {G : Gd} {r : Bool} {a0 : S27} {a1 : Int} {A1 : Option Addr} {c2 : Nat} (hr3 : Rd G k37 A1 a0.f1) (hl4 : a0.f1.length ≤ c2) (h : code_Right.f a0 a1 = some r) : Fn Tryd.prog 16 G [] [.agg #[.int .i64 a0.f0, .slice A1 a0.f1.length c2], .int .i64 a1] (code_Right.post G  r) := by
 refine Fn.intro (e := [(0, .agg #[.int .i64 a0.f0, .slice A1 a0.f1.length c2]), (1, .int .i64 a1)]) 35 Tryd.func16 rfl Tryd.ntmps16 rfl rfl (Nat.le_of_ble_eq_true rfl) (fun L => ?_)
 unfold code_Right.f at h
 refine TC.new (ch := Mk []) Mk.nil ?_
 refine TC.seq ?_
 refine TC.region ?_
 refine TL.cons (TL.box (cs := [.int .i64 a0.f0, .slice A1 a0.f1.length c2]) rfl rfl rfl rfl (fun b6 => ?_))
 refine TL.cons (TL.box (cs := [.int .i64 a1]) rfl rfl rfl rfl (fun b7 => ?_))
 refine TL.cons (TL.alloc (cs := [.bool false]) rfl rfl zr4 rfl (fun b8 => ?_))
 refine TL.nil ?_
 refine TQ.then_ ?_
 refine TC.seq ?_
 refine TC.seq ?_
 obtain ⟨j17, hj17, h⟩ := jn_no h
 refine TC.tail (fun a W => ∃ (x16 : Bool), j17 x16 = some r ∧ Fr (⟨35, List.map mark []⟩ : Nd) a [(2, .pointer (some ⟨b6, 0, none⟩)), (3, .pointer (some ⟨b7, 0, none⟩)), (4, .pointer (some ⟨b8, 0, none⟩)), (17, .bool x16)] ∧ Own G (Blk b6 [.int .i64 a0.f0, .slice A1 a0.f1.length c2] 27 :: Blk b7 [.int .i64 a1] 3 :: Blk b8 [.bool false] 4 :: Mk [] :: L) W) ?_ ?_
 ·
  rintro a W ⟨x16, h, hF, hO⟩
  rw [hj17] at h
  refine TQ.use ?_ hF hO
  clear hF hO
  refine TQ.then_ ?_
  refine TC.cond_b rfl h (fun hc19 h => ?_) (fun hc19 h => ?_)
  ·
   refine TC.seq ?_
   refine TC.region ?_
   refine TL.cons (TL.store 2 (ds := [.bool false]) (cs' := [.bool false]) (L' := (Blk b6 [.int .i64 a0.f0, .slice A1 a0.f1.length c2] 27 :: Blk b7 [.int .i64 a1] 3 :: Blk b8 [.bool false] 4 :: Mk [] :: L)) rfl fsz4 rfl rfl rfl rfl rfl (Nat.le_of_ble_eq_true rfl) rfl rfl ?_)
   refine TL.nil ?_
   refine TQ.then_ ?_
   refine TC.ret ?_
   refine TQ.thenR ?_
   refine TQ.finL (ds := List.map mark []) (.inl rfl) rfl (fun a_ hx20 => ?_)
   refine Lv.marks (L' := (Blk b6 [.int .i64 a0.f0, .slice A1 a0.f1.length c2] 27 :: Blk b7 [.int .i64 a1] 3 :: Blk b8 [.bool false] 4 :: Emp :: L)) 3 rfl rfl ?_
   obtain rfl := Option.some.inj h
   exact Lv.nil hx20 Tryd.results16 (.cell 2 rfl rfl agg4 rfl .nil) rfl (FRel.mk (Ls := []) [] 4 (Gd.le.refl _) rfl rfl rfl ⟨rfl, rfl, rfl⟩)
  ·
   refine TC.skip ?_
   refine TQ.then_ ?_
   refine TC.seq ?_
   refine TC.seq ?_
   refine TC.region ?_
   refine TL.cons (TO.val rfl rfl rfl (Val.fieldAddrB Tryd.underlying27 rfl fsz25 rfl rfl rfl) ?_)
   refine TL.cons (TO.val rfl rfl rfl (Val.loadB 0 agg25 rfl rfl rfl) ?_)
   refine TL.cons (TO.val rfl rfl rfl (Val.makeFunc (xs := []) (ys := [.pointer (some ⟨b6, 0, none⟩)]) rfl rfl) ?_)
   refine TL.cons (TO.inl (args := [.slice A1 a0.f1.length c2, .func (.func 48) #[] #[.pointer (some ⟨b6, 0, none⟩)]]) (e' := [(0, .slice A1 a0.f1.length c2), (1, .func (.func 48) #[] #[.pointer (some ⟨b6, 0, none⟩)])]) 9 rfl rfl hbd47 rfl rfl Tryd.func47 rfl Tryd.ntmps47 rfl rfl (Nat.le_of_ble_eq_true rfl) (fun a21 hf22 => ?_))
   refine TC.seq ?_
   refine TC.region ?_
   refine TL.cons (TO.val rfl rfl rfl (Val.assign rfl) ?_)
   refine TL.nil ?_
   refine TQ.then_ ?_
   refine TC.seq ?_
   refine TC.region ?_
   refine TL.cons (TO.val rfl rfl rfl (Val.move rfl) ?_)
   refine TL.cons (TO.val rfl rfl rfl (Val.move rfl) ?_)
   refine TL.cons (TO.inl (args := [.slice A1 a0.f1.length c2, .func (.func 48) #[] #[.pointer (some ⟨b6, 0, none⟩)]]) (e' := [(0, .slice A1 a0.f1.length c2), (1, .func (.func 48) #[] #[.pointer (some ⟨b6, 0, none⟩)])]) 19 rfl rfl hbd78 rfl rfl Tryd.func78 rfl Tryd.ntmps78 rfl rfl (Nat.le_of_ble_eq_true rfl) (fun a241 hf242 => ?_))
   obtain ⟨j387, hj387, h⟩ := jn_no h
   refine TC.after (fun en W => ∃ (x386 : Int), j387 x386 = some r ∧ en = .returned (.int .i64 x386) ∧ Own G (Blk b6 [.int .i64 a0.f0, .slice A1 a0.f1.length c2] 27 :: Blk b7 [.int .i64 a1] 3 :: Blk b8 [.bool false] 4 :: Mk [] :: L) W) ?_ ?_
   ·
    rintro en W ⟨x386, h, rfl, hO⟩
    rw [hj387] at h
    refine (After.mk hf242 rfl ?_) W hO
    clear hO
    refine TL.cons (TO.val rfl rfl rfl (Val.cmp rfl rfl run_geq) ?_)
    refine TL.cons (TO.val rfl rfl rfl (Val.assign rfl) ?_)
    refine TL.nil ?_
    refine TQ.then_ ?_
    refine TC.ret ?_
    refine TQ.fin (v := .bool (decide (0 ≤ x386))) (.inl rfl) rfl Tryd.results47 (.tmp rfl .nil) rfl (After.mk hf22 rfl ?_)
    refine TL.nil ?_
    refine TQ.then_ ?_
    refine TC.cond_p rfl h (fun hc389 h => ?_) (fun hc389 h => ?_)
    ·
     refine TC.seq ?_
     refine TC.region ?_
     refine TL.cons (TL.store 2 (ds := [.bool false]) (cs' := [.bool false]) (L' := (Blk b6 [.int .i64 a0.f0, .slice A1 a0.f1.length c2] 27 :: Blk b7 [.int .i64 a1] 3 :: Blk b8 [.bool false] 4 :: Mk [] :: L)) rfl fsz4 rfl rfl rfl rfl rfl (Nat.le_of_ble_eq_true rfl) rfl rfl ?_)
     refine TL.nil ?_
     refine TQ.then_ ?_
     refine TC.ret ?_
     refine TQ.thenR ?_
     refine TQ.finL (ds := List.map mark []) (.inl rfl) rfl (fun a_ hx390 => ?_)
     refine Lv.marks (L' := (Blk b6 [.int .i64 a0.f0, .slice A1 a0.f1.length c2] 27 :: Blk b7 [.int .i64 a1] 3 :: Blk b8 [.bool false] 4 :: Emp :: L)) 3 rfl rfl ?_
     obtain rfl := Option.some.inj h
     exact Lv.nil hx390 Tryd.results16 (.cell 2 rfl rfl agg4 rfl .nil) rfl (FRel.mk (Ls := []) [] 4 (Gd.le.refl _) rfl rfl rfl ⟨rfl, rfl, rfl⟩)
    ·
     refine TC.skip ?_
     refine TQ.then_ ?_
     refine TC.seq ?_
     refine TC.region ?_
     refine TL.cons (TL.alloc (cs := [.int .i64 0]) rfl rfl zr3 rfl (fun b391 => ?_))
     refine TL.cons (TL.store 0 (ds := [.int .i64 0]) (cs' := [.int .i64 0]) (L' := (Blk b391 [.int .i64 0] 3 :: Blk b6 [.int .i64 a0.f0, .slice A1 a0.f1.length c2] 27 :: Blk b7 [.int .i64 a1] 3 :: Blk b8 [.bool false] 4 :: Mk [] :: L)) rfl fsz3 rfl rfl rfl rfl rfl (Nat.le_of_ble_eq_true rfl) rfl rfl ?_)
     refine TL.nil ?_
     refine TQ.then_ ?_
     refine TC.seq ?_
     refine TC.seq ?_
     refine TC.region ?_
     refine TL.cons (TO.val rfl rfl rfl (Val.loadsB 1 (cs := [.int .i64 a0.f0, .slice A1 a0.f1.length c2]) agg27 fsz27 rfl rfl rfl rfl) ?_)
     refine TL.cons (TO.inl (args := [.agg #[.int .i64 a0.f0, .slice A1 a0.f1.length c2]]) (e' := [(0, .agg #[.int .i64 a0.f0, .slice A1 a0.f1.length c2])]) 4 rfl rfl hbd46 rfl rfl Tryd.func46 rfl Tryd.ntmps46 rfl rfl (Nat.le_of_ble_eq_true rfl) (fun a392 hf393 => ?_))
     refine TC.seq ?_
     refine TC.region ?_
     refine TL.cons (TL.box (cs := [.int .i64 a0.f0, .slice A1 a0.f1.length c2]) rfl rfl rfl rfl (fun b395 => ?_))
     refine TL.cons (TO.val rfl rfl rfl (Val.assign rfl) ?_)
     refine TL.nil ?_
     refine TQ.then_ ?_
     refine TC.seq ?_
     refine TC.region ?_
     refine TL.cons (TO.val rfl rfl rfl (Val.makeFunc (xs := []) (ys := [.pointer (some ⟨b395, 0, none⟩)]) rfl rfl) ?_)
     refine TL.cons (TO.val rfl rfl rfl (Val.assign rfl) ?_)
     refine TL.nil ?_
     refine TQ.then_ ?_
     refine TC.ret ?_
     refine TQ.fin (v := .func (.func 77) #[] #[.pointer (some ⟨b395, 0, none⟩)]) (.inl rfl) rfl Tryd.results46 (.tmp rfl .nil) rfl (After.mk hf393 rfl ?_)
     refine TL.nil ?_
     refine TQ.then_ ?_
     refine TC.block ?_
     refine TC.rangeFunc (e1 := fun l_ => [(0, .func (.yield l_) #[] #[]), (1, .pointer (some ⟨b395, 0, none⟩))]) 27 rfl hbd77 Tryd.func77 rfl Tryd.ntmps77 rfl (fun _ => rfl) (Nat.le_of_ble_eq_true rfl) (fun a965 R962 o963 o964 hp966 ha967 hb968 hf969 hf970 => ?_)
     refine TC.sel (Ls := [Ob o964 (.deferred (some [])), Mk [], Ob o963 (LoopO R962 .ready none), Blk b395 [.int .i64 a0.f0, .slice A1 a0.f1.length c2] 27, Blk b391 [.int .i64 0] 3, Blk b6 [.int .i64 a0.f0, .slice A1 a0.f1.length c2] 27, Blk b7 [.int .i64 a1] 3, Blk b8 [.bool false] 4]) [1, 7, 0, 2, 3, 4, 5, 6] 8 rfl rfl rfl ?_
     refine TC.two (ch := Mk (o964 :: [])) Mk.cons ?_
     refine TC.seq ?_
     refine TC.region ?_
     refine TL.cons (TO.val rfl rfl rfl (Val.fieldAddrB Tryd.underlying27 rfl fsz25 rfl rfl rfl) ?_)
     refine TL.cons (TO.val rfl rfl rfl (Val.loadB 2 agg25 rfl rfl rfl) ?_)
     refine TL.cons (TO.val rfl rfl rfl (Val.len Tryd.underlying25 rfl) ?_)
     refine TL.cons (TO.val rfl rfl rfl (Val.move rfl) ?_)
     refine TL.nil ?_
     refine TQ.then_ ?_
     obtain ⟨o1879, ho1879, ko1879⟩ := bind_no h
     clear h
     refine TC.tail (fun a W => ∃ (x1878 : Int), (.inr x1878) = o1879 ∧ Fr 27 a [] ∧ Own G (Blk b391 [.int .i64 x1878] 3 :: Blk b395 [.int .i64 a0.f0, .slice A1 a0.f1.length c2] 27 :: Blk b6 [.int .i64 a0.f0, .slice A1 a0.f1.length c2] 27 :: Blk b7 [.int .i64 a1] 3 :: Blk b8 [.bool false] 4 :: Mk (o964 :: []) :: Ob o963 (LoopO R962 .ready none) :: L) W) ?_ ?_
     ·
      rintro a W ⟨x1878, rfl, hF, hO⟩
      have h := ko1879
      clear ko1879 ho1879
      refine TQ.use ?_ hF hO
      clear hF hO
      refine TQ.fin (v := .tuple #[]) (.inr rfl) rfl Tryd.results77 .nil rfl (RangeP.normal (L' := (Blk b391 [.int .i64 x1878] 3 :: Blk b395 [.int .i64 a0.f0, .slice A1 a0.f1.length c2] 27 :: Blk b6 [.int .i64 a0.f0, .slice A1 a0.f1.length c2] 27 :: Blk b7 [.int .i64 a1] 3 :: Blk b8 [.bool false] 4 :: Mk (o964 :: []) :: Emp :: L)) 6 hf970 rfl rfl rfl ?_)
      refine TQ.inB ?_
      refine TQ.then_ ?_
      refine TC.seq ?_
      refine TC.region ?_
      refine TL.cons (TL.store 4 (ds := [.bool true]) (cs' := [.bool true]) (L' := (Blk b391 [.int .i64 x1878] 3 :: Blk b395 [.int .i64 a0.f0, .slice A1 a0.f1.length c2] 27 :: Blk b6 [.int .i64 a0.f0, .slice A1 a0.f1.length c2] 27 :: Blk b7 [.int .i64 a1] 3 :: Blk b8 [.bool true] 4 :: Mk (o964 :: []) :: Emp :: L)) rfl fsz4 rfl rfl rfl rfl rfl (Nat.le_of_ble_eq_true rfl) rfl rfl ?_)
      refine TL.nil ?_
      refine TQ.then_ ?_
      refine TC.ret ?_
      refine TQ.finL (ds := List.map mark (o964 :: [])) (.inl rfl) rfl (fun a_ hx2179 => ?_)
      refine Lv.marks (L' := (Blk b391 [.int .i64 x1878] 3 :: Blk b395 [.int .i64 a0.f0, .slice A1 a0.f1.length c2] 27 :: Blk b6 [.int .i64 a0.f0, .slice A1 a0.f1.length c2] 27 :: Blk b7 [.int .i64 a1] 3 :: Blk b8 [.bool true] 4 :: Emp :: Emp :: L)) 5 rfl rfl ?_
      obtain rfl := Option.some.inj h
      exact Lv.nil hx2179 Tryd.results16 (.cell 4 rfl rfl agg4 rfl .nil) rfl (FRel.mk (Ls := []) [] 7 (Gd.le.refl _) rfl rfl rfl ⟨rfl, rfl, rfl⟩)
     ·
      refine TC.block ?_
      intro a W hF hO
      have hS : ∃ (x1575 : Int) (x1576 : Int), code_Right.l0 a0 a1 (a0.f1.length + 1) x1575 x1576 = some o1879 ∧ Fr 27 a [(0, .func (.yield o963) #[] #[]), (8, .slice A1 a0.f1.length c2), (9, .int .i64 (a0.f1.length : Int)), (10, .int .i64 x1575)] ∧ Own G (Blk b391 [.int .i64 x1576] 3 :: Blk b395 [.int .i64 a0.f0, .slice A1 a0.f1.length c2] 27 :: Blk b6 [.int .i64 a0.f0, .slice A1 a0.f1.length c2] 27 :: Blk b7 [.int .i64 a1] 3 :: Blk b8 [.bool false] 4 :: Mk (o964 :: []) :: Ob o963 (LoopO R962 .ready none) :: L) W := by
       exact ⟨0, 0, ho1879, hF.sub ⟨rfl, rfl, rfl, rfl, trivial⟩, hO.selT (Ls := [Blk b391 [.int .i64 0] 3, Blk b395 [.int .i64 a0.f0, .slice A1 a0.f1.length c2] 27, Blk b6 [.int .i64 a0.f0, .slice A1 a0.f1.length c2] 27, Blk b7 [.int .i64 a1] 3, Blk b8 [.bool false] 4, Mk (o964 :: []), Ob o963 (LoopO R962 .ready none)]) [3, 2, 4, 5, 6, 0, 1] 7 rfl rfl rfl⟩
      clear hF hO ho1879
      refine TC.loop (fun n1880 a W => ∃ (x1575 : Int) (x1576 : Int), code_Right.l0 a0 a1 n1880 x1575 x1576 = some o1879 ∧ Fr 27 a [(0, .func (.yield o963) #[] #[]), (8, .slice A1 a0.f1.length c2), (9, .int .i64 (a0.f1.length : Int)), (10, .int .i64 x1575)] ∧ Own G (Blk b391 [.int .i64 x1576] 3 :: Blk b395 [.int .i64 a0.f0, .slice A1 a0.f1.length c2] 27 :: Blk b6 [.int .i64 a0.f0, .slice A1 a0.f1.length c2] 27 :: Blk b7 [.int .i64 a1] 3 :: Blk b8 [.bool false] 4 :: Mk (o964 :: []) :: Ob o963 (LoopO R962 .ready none) :: L) W) ?_ ?_ hS
      ·
       rintro a W ⟨x1575, x1576, h, hF, hO⟩
       exact none_no h
      ·
       clear hS
       rintro n1880 a W ⟨x1575, x1576, h, hF, hO⟩
       rw [code_Right.l0] at h
       refine TC.use ?_ hF hO
       clear hF hO
       refine TC.seq ?_
       refine TC.region ?_
       refine TL.cons (TO.val rfl rfl rfl (Val.cmp rfl rfl run_lss) ?_)
       refine TL.nil ?_
       refine TQ.then_ ?_
       refine TC.seq ?_
       refine TC.cond_p rfl h (fun hc2181 h => ?_) (fun hc2181 h => ?_)
       ·
        refine TC.skip ?_
        refine TQ.then_ ?_
        refine TC.seq ?_
        refine TC.block ?_
        refine TC.seq ?_
        refine TC.region ?_
        obtain ⟨y2387, hx2388, h⟩ := bind_no h
        obtain ⟨ad2389, cs2395, hA2390, hi2391, hj2392, hcl2393, hK2394⟩ := Rd.at hr3 hx2388
        obtain ⟨A2396, c2397, rfl, hr2398, hl2399⟩ := k37_openR hK2394
        refine TL.cons (TO.val rfl rfl rfl (Val.indexAddr Tryd.underlying25 fsz37 rfl hA2390 rfl hi2391 hj2392) ?_)
        refine TL.cons (TO.val rfl rfl rfl (Val.loadsS (cs := [.slice A2396 y2387.f0.length c2397, .int .i64 y2387.f1.f0, .int .i64 y2387.f1.f1, .int .i64 y2387.f1.f2, .int .i64 y2387.f1.f3]) agg37 fsz37 rfl rfl (Cl.sub (off := 0) (n := 5) hcl2393 rfl)) ?_)
        refine TL.cons (TL.alloc (cs := [.slice none 0 0, .int .i64 0, .int .i64 0, .int .i64 0, .int .i64 0]) rfl rfl zr37 rfl (fun b2400 => ?_))
        refine TL.cons (TL.store 0 (ds := [.slice A2396 y2387.f0.length c2397, .int .i64 y2387.f1.f0, .int .i64 y2387.f1.f1, .int .i64 y2387.f1.f2, .int .i64 y2387.f1.f3]) (cs' := [.slice A2396 y2387.f0.length c2397, .int .i64 y2387.f1.f0, .int .i64 y2387.f1.f1, .int .i64 y2387.f1.f2, .int .i64 y2387.f1.f3]) (L' := (Blk b2400 [.slice A2396 y2387.f0.length c2397, .int .i64 y2387.f1.f0, .int .i64 y2387.f1.f1, .int .i64 y2387.f1.f2, .int .i64 y2387.f1.f3] 37 :: Blk b391 [.int .i64 x1576] 3 :: Blk b395 [.int .i64 a0.f0, .slice A1 a0.f1.length c2] 27 :: Blk b6 [.int .i64 a0.f0, .slice A1 a0.f1.length c2] 27 :: Blk b7 [.int .i64 a1] 3 :: Blk b8 [.bool false] 4 :: Mk (o964 :: []) :: Ob o963 (LoopO R962 .ready none) :: L)) rfl fsz37 rfl rfl rfl rfl rfl (Nat.le_of_ble_eq_true rfl) rfl rfl ?_)
        refine TL.nil ?_
        refine TQ.then_ ?_
        refine TC.seq ?_
        refine TC.region ?_
        refine TL.cons (TO.val rfl rfl rfl (Val.fieldAddrB Tryd.underlying37 rfl fsz33 rfl rfl rfl) ?_)
        refine TL.cons (TO.val rfl rfl rfl (Val.loadB 0 agg33 rfl rfl rfl) ?_)
        refine TL.cons (TO.val rfl rfl rfl (Val.len Tryd.underlying33 rfl) ?_)
        refine TL.cons (TO.val rfl rfl rfl (Val.move rfl) ?_)
        refine TL.nil ?_
        refine TQ.then_ ?_
        obtain ⟨o2661, ho2661, ko2661⟩ := bind_no h
        clear h
        refine TC.tail (fun a W => ∃ (x2660 : Int), (.inr x2660) = o2661 ∧ Fr 27 a [(0, .func (.yield o963) #[] #[]), (8, .slice A1 a0.f1.length c2), (9, .int .i64 (a0.f1.length : Int)), (10, .int .i64 x1575)] ∧ Own G (Blk b391 [.int .i64 x2660] 3 :: Blk b395 [.int .i64 a0.f0, .slice A1 a0.f1.length c2] 27 :: Blk b6 [.int .i64 a0.f0, .slice A1 a0.f1.length c2] 27 :: Blk b7 [.int .i64 a1] 3 :: Blk b8 [.bool false] 4 :: Mk (o964 :: []) :: Ob o963 (LoopO R962 .ready none) :: L) W) ?_ ?_
        ·
         rintro a W ⟨x2660, rfl, hF, hO⟩
         have h := ko2661
         clear ko2661 ho2661
         refine TQ.use ?_ hF hO
         clear hF hO
         refine TQ.inB ?_
         refine TQ.then_ ?_
         refine TC.region ?_
         refine TL.cons (TO.val rfl rfl rfl (Val.cmp rfl rfl run_add) ?_)
         refine TL.cons (TO.val rfl rfl rfl (Val.move rfl) ?_)
         refine TL.nil ?_
         exact fun a W hF hO => ⟨IntKind.i64.wrap (x1575 + 1), x2660, h, hF.sub ⟨rfl, rfl, rfl, rfl, trivial⟩, hO.selT (Ls := [Blk b391 [.int .i64 x2660] 3, Blk b395 [.int .i64 a0.f0, .slice A1 a0.f1.length c2] 27, Blk b6 [.int .i64 a0.f0, .slice A1 a0.f1.length c2] 27, Blk b7 [.int .i64 a1] 3, Blk b8 [.bool false] 4, Mk (o964 :: []), Ob o963 (LoopO R962 .ready none)]) [0, 1, 2, 3, 4, 5, 6] 7 rfl rfl rfl⟩
        ·
         refine TC.block ?_
         intro a W hF hO
         have hS : ∃ (x2573 : Int) (x2574 : Int), code_Right.l1 a1 y2387 (y2387.f0.length + 1) x2573 x2574 = some o2661 ∧ Fr 27 a [(0, .func (.yield o963) #[] #[]), (8, .slice A1 a0.f1.length c2), (9, .int .i64 (a0.f1.length : Int)), (10, .int .i64 x1575), (15, .slice A2396 y2387.f0.length c2397), (16, .int .i64 (y2387.f0.length : Int)), (17, .int .i64 x2573)] ∧ Own G (Blk b391 [.int .i64 x2574] 3 :: Blk b395 [.int .i64 a0.f0, .slice A1 a0.f1.length c2] 27 :: Blk b6 [.int .i64 a0.f0, .slice A1 a0.f1.length c2] 27 :: Blk b7 [.int .i64 a1] 3 :: Blk b8 [.bool false] 4 :: Mk (o964 :: []) :: Ob o963 (LoopO R962 .ready none) :: L) W := by
          exact ⟨0, x1576, ho2661, hF.sub ⟨rfl, rfl, rfl, rfl, rfl, rfl, rfl, trivial⟩, hO.selT (Ls := [Blk b391 [.int .i64 x1576] 3, Blk b395 [.int .i64 a0.f0, .slice A1 a0.f1.length c2] 27, Blk b6 [.int .i64 a0.f0, .slice A1 a0.f1.length c2] 27, Blk b7 [.int .i64 a1] 3, Blk b8 [.bool false] 4, Mk (o964 :: []), Ob o963 (LoopO R962 .ready none)]) [1, 2, 3, 4, 5, 6, 7] 8 rfl rfl rfl⟩
         clear hF hO ho2661
         refine TC.loop (fun n2662 a W => ∃ (x2573 : Int) (x2574 : Int), code_Right.l1 a1 y2387 n2662 x2573 x2574 = some o2661 ∧ Fr 27 a [(0, .func (.yield o963) #[] #[]), (8, .slice A1 a0.f1.length c2), (9, .int .i64 (a0.f1.length : Int)), (10, .int .i64 x1575), (15, .slice A2396 y2387.f0.length c2397), (16, .int .i64 (y2387.f0.length : Int)), (17, .int .i64 x2573)] ∧ Own G (Blk b391 [.int .i64 x2574] 3 :: Blk b395 [.int .i64 a0.f0, .slice A1 a0.f1.length c2] 27 :: Blk b6 [.int .i64 a0.f0, .slice A1 a0.f1.length c2] 27 :: Blk b7 [.int .i64 a1] 3 :: Blk b8 [.bool false] 4 :: Mk (o964 :: []) :: Ob o963 (LoopO R962 .ready none) :: L) W) ?_ ?_ hS
         ·
          rintro a W ⟨x2573, x2574, h, hF, hO⟩
          exact none_no h
         ·
          clear hS
          rintro n2662 a W ⟨x2573, x2574, h, hF, hO⟩
          rw [code_Right.l1] at h
          refine TC.use ?_ hF hO
          clear hF hO
          refine TC.seq ?_
          refine TC.region ?_
          refine TL.cons (TO.val rfl rfl rfl (Val.cmp rfl rfl run_lss) ?_)
          refine TL.nil ?_
          refine TQ.then_ ?_
          refine TC.seq ?_
          refine TC.cond_p rfl h (fun hc2748 h => ?_) (fun hc2748 h => ?_)
          ·
           refine TC.skip ?_
           refine TQ.then_ ?_
           refine TC.seq ?_
           refine TC.block ?_
           refine TC.seq ?_
           refine TC.region ?_
           obtain ⟨y2794, hx2795, h⟩ := bind_no h
           obtain ⟨ad2796, cs2802, hA2797, hi2798, hj2799, hcl2800, hK2801⟩ := Rd.at hr2398 hx2795
           obtain ⟨A2803, c2804, rfl, hr2805, hl2806⟩ := k40_openR hK2801
           refine TL.cons (TO.val rfl rfl rfl (Val.indexAddr Tryd.underlying33 fsz40 rfl hA2797 rfl hi2798 hj2799) ?_)
           refine TL.cons (TO.val rfl rfl rfl (Val.loadsS (cs := [.int .i64 y2794.f0, .int .i64 y2794.f1, .int .i64 y2794.f2, .int .i64 y2794.f3, .int .i64 y2794.f4, .slice A2803 y2794.f5.length c2804]) agg40 fsz40 rfl rfl (Cl.sub (off := 0) (n := 6) hcl2800 rfl)) ?_)
           refine TL.cons (TL.alloc (cs := [.int .i64 0, .int .i64 0, .int .i64 0, .int .i64 0, .int .i64 0, .slice none 0 0]) rfl rfl zr40 rfl (fun b2807 => ?_))
           refine TL.cons (TL.store 0 (ds := [.int .i64 y2794.f0, .int .i64 y2794.f1, .int .i64 y2794.f2, .int .i64 y2794.f3, .int .i64 y2794.f4, .slice A2803 y2794.f5.length c2804]) (cs' := [.int .i64 y2794.f0, .int .i64 y2794.f1, .int .i64 y2794.f2, .int .i64 y2794.f3, .int .i64 y2794.f4, .slice A2803 y2794.f5.length c2804]) (L' := (Blk b2807 [.int .i64 y2794.f0, .int .i64 y2794.f1, .int .i64 y2794.f2, .int .i64 y2794.f3, .int .i64 y2794.f4, .slice A2803 y2794.f5.length c2804] 40 :: Blk b391 [.int .i64 x2574] 3 :: Blk b395 [.int .i64 a0.f0, .slice A1 a0.f1.length c2] 27 :: Blk b6 [.int .i64 a0.f0, .slice A1 a0.f1.length c2] 27 :: Blk b7 [.int .i64 a1] 3 :: Blk b8 [.bool false] 4 :: Mk (o964 :: []) :: Ob o963 (LoopO R962 .ready none) :: L)) rfl fsz40 rfl rfl rfl rfl rfl (Nat.le_of_ble_eq_true rfl) rfl rfl ?_)
           refine TL.nil ?_
           refine TQ.then_ ?_
           refine TC.seq ?_
           refine TC.region ?_
           refine TL.cons (TO.val rfl rfl rfl (Val.move rfl) ?_)
           refine TL.cons (TO.val rfl rfl rfl (Val.loadsB 0 (cs := [.int .i64 y2794.f0, .int .i64 y2794.f1, .int .i64 y2794.f2, .int .i64 y2794.f3, .int .i64 y2794.f4, .slice A2803 y2794.f5.length c2804]) agg40 fsz40 rfl rfl rfl rfl) ?_)
           refine TL.cons (TO.yield 7 rfl rfl rfl rfl hp966 ha967 hb968 rfl hf969 rfl rfl (fun a2808 hf2809 => ?_))
           refine TC.region ?_
           refine TL.cons (TL.alloc (cs := [.int .i64 0, .int .i64 0, .int .i64 0, .int .i64 0, .int .i64 0, .slice none 0 0]) rfl rfl zr40 rfl (fun b2810 => ?_))
           refine TL.cons (TL.store 0 (ds := [.int .i64 y2794.f0, .int .i64 y2794.f1, .int .i64 y2794.f2, .int .i64 y2794.f3, .int .i64 y2794.f4, .slice A2803 y2794.f5.length c2804]) (cs' := [.int .i64 y2794.f0, .int .i64 y2794.f1, .int .i64 y2794.f2, .int .i64 y2794.f3, .int .i64 y2794.f4, .slice A2803 y2794.f5.length c2804]) (L' := (Blk b2810 [.int .i64 y2794.f0, .int .i64 y2794.f1, .int .i64 y2794.f2, .int .i64 y2794.f3, .int .i64 y2794.f4, .slice A2803 y2794.f5.length c2804] 40 :: Blk b2807 [.int .i64 y2794.f0, .int .i64 y2794.f1, .int .i64 y2794.f2, .int .i64 y2794.f3, .int .i64 y2794.f4, .slice A2803 y2794.f5.length c2804] 40 :: Blk b391 [.int .i64 x2574] 3 :: Blk b395 [.int .i64 a0.f0, .slice A1 a0.f1.length c2] 27 :: Blk b6 [.int .i64 a0.f0, .slice A1 a0.f1.length c2] 27 :: Blk b7 [.int .i64 a1] 3 :: Blk b8 [.bool false] 4 :: Mk (o964 :: []) :: Ob o963 (LoopO R962 .ready none) :: L)) rfl fsz40 rfl rfl rfl rfl rfl (Nat.le_of_ble_eq_true rfl) rfl rfl ?_)
           refine TL.nil ?_
           refine TQ.begin (L' := (Blk b2810 [.int .i64 y2794.f0, .int .i64 y2794.f1, .int .i64 y2794.f2, .int .i64 y2794.f3, .int .i64 y2794.f4, .slice A2803 y2794.f5.length c2804] 40 :: Blk b2807 [.int .i64 y2794.f0, .int .i64 y2794.f1, .int .i64 y2794.f2, .int .i64 y2794.f3, .int .i64 y2794.f4, .slice A2803 y2794.f5.length c2804] 40 :: Blk b391 [.int .i64 x2574] 3 :: Blk b395 [.int .i64 a0.f0, .slice A1 a0.f1.length c2] 27 :: Blk b6 [.int .i64 a0.f0, .slice A1 a0.f1.length c2] 27 :: Blk b7 [.int .i64 a1] 3 :: Blk b8 [.bool false] 4 :: Mk (o964 :: []) :: Ob o963 (LoopO R962 .busy none) :: L)) 8 rfl rfl ?_
           refine TC.block ?_
           refine TC.seq ?_
           refine TC.region ?_
           refine TL.cons (TO.val rfl rfl rfl (Val.loadB 2 agg3 rfl rfl rfl) ?_)
           refine TL.cons (TO.val rfl rfl rfl (Val.cmp rfl rfl run_add) ?_)
           refine TL.cons (TL.store 2 (ds := [.int .i64 (IntKind.i64.wrap (x2574 + 1))]) (cs' := [.int .i64 (IntKind.i64.wrap (x2574 + 1))]) (L' := (Blk b2810 [.int .i64 y2794.f0, .int .i64 y2794.f1, .int .i64 y2794.f2, .int .i64 y2794.f3, .int .i64 y2794.f4, .slice A2803 y2794.f5.length c2804] 40 :: Blk b2807 [.int .i64 y2794.f0, .int .i64 y2794.f1, .int .i64 y2794.f2, .int .i64 y2794.f3, .int .i64 y2794.f4, .slice A2803 y2794.f5.length c2804] 40 :: Blk b391 [.int .i64 (IntKind.i64.wrap (x2574 + 1))] 3 :: Blk b395 [.int .i64 a0.f0, .slice A1 a0.f1.length c2] 27 :: Blk b6 [.int .i64 a0.f0, .slice A1 a0.f1.length c2] 27 :: Blk b7 [.int .i64 a1] 3 :: Blk b8 [.bool false] 4 :: Mk (o964 :: []) :: Ob o963 (LoopO R962 .busy none) :: L)) rfl fsz3 rfl rfl rfl rfl rfl (Nat.le_of_ble_eq_true rfl) rfl rfl ?_)
           refine TL.nil ?_
           refine TQ.then_ ?_
           refine TC.seq ?_
           obtain ⟨j2831, hj2831, h⟩ := jn_no h
           refine TC.tail (fun a W => ∃ (x2830 : Bool), j2831 x2830 = some o2661 ∧ Fr 35 a [(4, .pointer (some ⟨b8, 0, none⟩)), (34, .bool x2830)] ∧ Own G (Blk b2807 [.int .i64 y2794.f0, .int .i64 y2794.f1, .int .i64 y2794.f2, .int .i64 y2794.f3, .int .i64 y2794.f4, .slice A2803 y2794.f5.length c2804] 40 :: Blk b391 [.int .i64 (IntKind.i64.wrap (x2574 + 1))] 3 :: Blk b395 [.int .i64 a0.f0, .slice A1 a0.f1.length c2] 27 :: Blk b6 [.int .i64 a0.f0, .slice A1 a0.f1.length c2] 27 :: Blk b7 [.int .i64 a1] 3 :: Blk b8 [.bool false] 4 :: Mk (o964 :: []) :: Ob o963 (LoopO R962 .busy none) :: L) W) ?_ ?_
           ·
            rintro a W ⟨x2830, h, hF, hO⟩
            rw [hj2831] at h
            refine TQ.use ?_ hF hO
            clear hF hO
            refine TQ.then_ ?_
            refine TC.cond_b rfl h (fun hc2833 h => ?_) (fun hc2833 h => ?_)
            ·
             refine TC.seq ?_
             refine TC.region ?_
             refine TL.cons (TL.store 5 (ds := [.bool false]) (cs' := [.bool false]) (L' := (Blk b2807 [.int .i64 y2794.f0, .int .i64 y2794.f1, .int .i64 y2794.f2, .int .i64 y2794.f3, .int .i64 y2794.f4, .slice A2803 y2794.f5.length c2804] 40 :: Blk b391 [.int .i64 (IntKind.i64.wrap (x2574 + 1))] 3 :: Blk b395 [.int .i64 a0.f0, .slice A1 a0.f1.length c2] 27 :: Blk b6 [.int .i64 a0.f0, .slice A1 a0.f1.length c2] 27 :: Blk b7 [.int .i64 a1] 3 :: Blk b8 [.bool false] 4 :: Mk (o964 :: []) :: Ob o963 (LoopO R962 .busy none) :: L)) rfl fsz4 rfl rfl rfl rfl rfl (Nat.le_of_ble_eq_true rfl) rfl rfl ?_)
             refine TL.nil ?_
             refine TQ.then_ ?_
             refine TC.ret ?_
             refine TQ.inBR ?_
             refine TQ.roundR (L' := (Blk b2807 [.int .i64 y2794.f0, .int .i64 y2794.f1, .int .i64 y2794.f2, .int .i64 y2794.f3, .int .i64 y2794.f4, .slice A2803 y2794.f5.length c2804] 40 :: Blk b391 [.int .i64 (IntKind.i64.wrap (x2574 + 1))] 3 :: Blk b395 [.int .i64 a0.f0, .slice A1 a0.f1.length c2] 27 :: Blk b6 [.int .i64 a0.f0, .slice A1 a0.f1.length c2] 27 :: Blk b7 [.int .i64 a1] 3 :: Blk b8 [.bool false] 4 :: Mk (o964 :: []) :: Ob o963 (LoopO R962 .done (some .ret)) :: L)) 7 rfl rfl (After.mk hf2809 rfl ?_)
             refine TL.cons (TO.val rfl rfl rfl (Val.not_ rfl) ?_)
             refine TL.nil ?_
             refine TQ.then_ ?_
             refine TC.condT rfl ?_
             refine TC.ret ?_
             refine TQ.inBR ?_
             refine TQ.thenR ?_
             refine TQ.thenR ?_
             refine TQ.inBR ?_
             refine TQ.thenR ?_
             refine TQ.inBR ?_
             refine TQ.thenR ?_
             refine TQ.thenR ?_
             refine TQ.inBR ?_
             refine TQ.thenR ?_
             refine TQ.fin (v := .tuple #[]) (.inl rfl) rfl Tryd.results77 .nil rfl (RangeP.ret (L' := (Blk b2807 [.int .i64 y2794.f0, .int .i64 y2794.f1, .int .i64 y2794.f2, .int .i64 y2794.f3, .int .i64 y2794.f4, .slice A2803 y2794.f5.length c2804] 40 :: Blk b391 [.int .i64 (IntKind.i64.wrap (x2574 + 1))] 3 :: Blk b395 [.int .i64 a0.f0, .slice A1 a0.f1.length c2] 27 :: Blk b6 [.int .i64 a0.f0, .slice A1 a0.f1.length c2] 27 :: Blk b7 [.int .i64 a1] 3 :: Blk b8 [.bool false] 4 :: Mk (o964 :: []) :: Emp :: L)) 7 hf970 rfl rfl rfl ?_)
             refine TQ.inBR ?_
             refine TQ.thenR ?_
             refine TQ.finL (ds := List.map mark (o964 :: [])) (.inl rfl) rfl (fun a_ hx2834 => ?_)
             refine Lv.marks (L' := (Blk b2807 [.int .i64 y2794.f0, .int .i64 y2794.f1, .int .i64 y2794.f2, .int .i64 y2794.f3, .int .i64 y2794.f4, .slice A2803 y2794.f5.length c2804] 40 :: Blk b391 [.int .i64 (IntKind.i64.wrap (x2574 + 1))] 3 :: Blk b395 [.int .i64 a0.f0, .slice A1 a0.f1.length c2] 27 :: Blk b6 [.int .i64 a0.f0, .slice A1 a0.f1.length c2] 27 :: Blk b7 [.int .i64 a1] 3 :: Blk b8 [.bool false] 4 :: Emp :: Emp :: L)) 6 rfl rfl ?_
             obtain rfl := Option.some.inj h
             have h := ko2661
             obtain rfl := Option.some.inj h
             have h := ko1879
             obtain rfl := Option.some.inj h
             exact Lv.nil hx2834 Tryd.results16 (.cell 5 rfl rfl agg4 rfl .nil) rfl (FRel.mk (Ls := []) [] 8 (Gd.le.refl _) rfl rfl rfl ⟨rfl, rfl, rfl⟩)
            ·
             refine TC.skip ?_
             refine TQ.inB ?_
             refine TQ.roundN (L' := (Blk b2807 [.int .i64 y2794.f0, .int .i64 y2794.f1, .int .i64 y2794.f2, .int .i64 y2794.f3, .int .i64 y2794.f4, .slice A2803 y2794.f5.length c2804] 40 :: Blk b391 [.int .i64 (IntKind.i64.wrap (x2574 + 1))] 3 :: Blk b395 [.int .i64 a0.f0, .slice A1 a0.f1.length c2] 27 :: Blk b6 [.int .i64 a0.f0, .slice A1 a0.f1.length c2] 27 :: Blk b7 [.int .i64 a1] 3 :: Blk b8 [.bool false] 4 :: Mk (o964 :: []) :: Ob o963 (LoopO R962 .ready none) :: L)) 7 rfl rfl (After.mk hf2809 rfl ?_)
             refine TL.cons (TO.val rfl rfl rfl (Val.not_ rfl) ?_)
             refine TL.nil ?_
             refine TQ.then_ ?_
             refine TC.condF rfl ?_
             refine TC.skip ?_
             refine TQ.inB ?_
             refine TQ.then_ ?_
             refine TC.region ?_
             refine TL.cons (TO.val rfl rfl rfl (Val.cmp rfl rfl run_add) ?_)
             refine TL.cons (TO.val rfl rfl rfl (Val.move rfl) ?_)
             refine TL.nil ?_
             exact fun a W hF hO => ⟨IntKind.i64.wrap (x2573 + 1), IntKind.i64.wrap (x2574 + 1), h, hF.sub ⟨rfl, rfl, rfl, rfl, rfl, rfl, rfl, trivial⟩, hO.selT (Ls := [Blk b391 [.int .i64 (IntKind.i64.wrap (x2574 + 1))] 3, Blk b395 [.int .i64 a0.f0, .slice A1 a0.f1.length c2] 27, Blk b6 [.int .i64 a0.f0, .slice A1 a0.f1.length c2] 27, Blk b7 [.int .i64 a1] 3, Blk b8 [.bool false] 4, Mk (o964 :: []), Ob o963 (LoopO R962 .ready none)]) [1, 2, 3, 4, 5, 6, 7] 8 rfl rfl rfl⟩
           ·
            refine TC.region ?_
            refine TL.cons (TO.val rfl rfl rfl (Val.loadB 2 agg3 rfl rfl rfl) ?_)
            refine TL.cons (TO.val rfl rfl rfl (Val.cmp rfl rfl run_gtr) ?_)
            refine TL.cons (TO.val rfl rfl rfl (Val.move rfl) ?_)
            refine TK.split (p := 16384 < (IntKind.i64.wrap (x2574 + 1))) h (fun hg2835 h => ?_) (fun hg2835 h => ?_)
            ·
             have hk2836 : decide (16384 < (IntKind.i64.wrap (x2574 + 1))) = true := decide_eq_true hg2835
             refine TL.cons (TL.not (Wt.no rfl rfl rfl hk2836) rfl ?_)
             refine TL.cons (TL.not (Wt.no rfl rfl rfl hk2836) rfl ?_)
             refine TL.cons (TL.not (Wt.no rfl rfl rfl hk2836) rfl ?_)
             refine TL.cons (TL.not (Wt.no rfl rfl rfl hk2836) rfl ?_)
             refine TL.cons (TO.val rfl rfl rfl (Val.pickY rfl hk2836 rfl) ?_)
             refine TL.nil ?_
             exact fun a W hF hO => ⟨true, h, hF.sub ⟨rfl, rfl, trivial⟩, hO.selT (Ls := [Blk b2807 [.int .i64 y2794.f0, .int .i64 y2794.f1, .int .i64 y2794.f2, .int .i64 y2794.f3, .int .i64 y2794.f4, .slice A2803 y2794.f5.length c2804] 40, Blk b391 [.int .i64 (IntKind.i64.wrap (x2574 + 1))] 3, Blk b395 [.int .i64 a0.f0, .slice A1 a0.f1.length c2] 27, Blk b6 [.int .i64 a0.f0, .slice A1 a0.f1.length c2] 27, Blk b7 [.int .i64 a1] 3, Blk b8 [.bool false] 4, Mk (o964 :: []), Ob o963 (LoopO R962 .busy none)]) [1, 2, 3, 4, 5, 6, 7, 8] 9 rfl rfl rfl⟩
            ·
             have hk2837 : decide (16384 < (IntKind.i64.wrap (x2574 + 1))) = false := decide_eq_false hg2835
             refine TL.cons (TO.val (Wt.yes rfl rfl rfl hk2837) rfl rfl (Val.loadsB 0 (cs := [.int .i64 y2794.f0, .int .i64 y2794.f1, .int .i64 y2794.f2, .int .i64 y2794.f3, .int .i64 y2794.f4, .slice A2803 y2794.f5.length c2804]) agg40 fsz40 rfl rfl rfl rfl) ?_)
             refine TL.cons (TO.val (Wt.yes rfl rfl rfl hk2837) rfl rfl (Val.loadB 5 agg3 rfl rfl rfl) ?_)
             obtain ⟨y2838, hy2839, h⟩ := bind_no h
             refine TL.cons (TL.callV (Lin := []) (args := [.agg #[.int .i64 y2794.f0, .int .i64 y2794.f1, .int .i64 y2794.f2, .int .i64 y2794.f3, .int .i64 y2794.f4, .slice A2803 y2794.f5.length c2804], .int .i64 a1]) (Wt.yes rfl rfl rfl hk2837) rfl rfl hbd17 rfl rfl (code_RightOp.calls (a0 := y2794) (a1 := a1) hr2805 hl2806 hy2839) rfl ?_)
             rintro _ _ _ _ ⟨rfl, rfl, rfl⟩
             refine TL.cons (TO.val (Wt.yes rfl rfl rfl hk2837) rfl rfl (Val.not_ rfl) ?_)
             refine TL.cons (TO.val rfl rfl rfl (Val.pickN rfl hk2837 rfl) ?_)
             refine TL.nil ?_
             exact fun a W hF hO => ⟨(!y2838), h, hF.sub ⟨rfl, rfl, trivial⟩, hO.selT (Ls := [Blk b2807 [.int .i64 y2794.f0, .int .i64 y2794.f1, .int .i64 y2794.f2, .int .i64 y2794.f3, .int .i64 y2794.f4, .slice A2803 y2794.f5.length c2804] 40, Blk b391 [.int .i64 (IntKind.i64.wrap (x2574 + 1))] 3, Blk b395 [.int .i64 a0.f0, .slice A1 a0.f1.length c2] 27, Blk b6 [.int .i64 a0.f0, .slice A1 a0.f1.length c2] 27, Blk b7 [.int .i64 a1] 3, Blk b8 [.bool false] 4, Mk (o964 :: []), Ob o963 (LoopO R962 .busy none)]) [1, 2, 3, 4, 5, 6, 7, 8] 9 rfl rfl rfl⟩
          ·
           refine TC.exit ?_
           refine TQ.thenX ?_
           refine TQ.thenX ?_
           refine TQ.inBX ?_
           exact fun a W hF hO => ⟨x2574, Option.some.inj h, hF.sub ⟨rfl, rfl, rfl, rfl, trivial⟩, hO.selT (Ls := [Blk b391 [.int .i64 x2574] 3, Blk b395 [.int .i64 a0.f0, .slice A1 a0.f1.length c2] 27, Blk b6 [.int .i64 a0.f0, .slice A1 a0.f1.length c2] 27, Blk b7 [.int .i64 a1] 3, Blk b8 [.bool false] 4, Mk (o964 :: []), Ob o963 (LoopO R962 .ready none)]) [0, 1, 2, 3, 4, 5, 6] 7 rfl rfl rfl⟩
       ·
        refine TC.exit ?_
        refine TQ.thenX ?_
        refine TQ.thenX ?_
        refine TQ.inBX ?_
        exact fun a W hF hO => ⟨x1576, Option.some.inj h, hF.sub trivial, hO.selT (Ls := [Blk b391 [.int .i64 x1576] 3, Blk b395 [.int .i64 a0.f0, .slice A1 a0.f1.length c2] 27, Blk b6 [.int .i64 a0.f0, .slice A1 a0.f1.length c2] 27, Blk b7 [.int .i64 a1] 3, Blk b8 [.bool false] 4, Mk (o964 :: []), Ob o963 (LoopO R962 .ready none)]) [0, 1, 2, 3, 4, 5, 6] 7 rfl rfl rfl⟩
   ·
    refine TC.seq ?_
    refine TC.region ?_
    refine TL.cons (TO.val rfl rfl rfl (Val.assign rfl) ?_)
    refine TL.nil ?_
    refine TQ.then_ ?_
    refine TC.seq ?_
    refine TC.seq ?_
    refine TC.region ?_
    refine TL.cons (TO.val rfl rfl rfl (Val.move rfl) ?_)
    refine TL.cons (TO.val rfl rfl rfl (Val.len Tryd.underlying25 rfl) ?_)
    refine TL.cons (TO.val rfl rfl rfl (Val.move rfl) ?_)
    refine TL.nil ?_
    refine TQ.then_ ?_
    obtain ⟨o2986, ho2986, ko2986⟩ := bind_no h
    clear h
    refine TC.tail (fun a W => (.inr ()) = o2986 ∧ Fr 19 a [] ∧ Own G (Blk b6 [.int .i64 a0.f0, .slice A1 a0.f1.length c2] 27 :: Blk b7 [.int .i64 a1] 3 :: Blk b8 [.bool false] 4 :: Mk [] :: L) W) ?_ ?_
    ·
     rintro a W ⟨rfl, hF, hO⟩
     have h := ko2986
     clear ko2986 ho2986
     refine TQ.use ?_ hF hO
     clear hF hO
     refine TQ.then_ ?_
     refine TC.seq ?_
     refine TC.region ?_
     refine TL.cons (TO.val rfl rfl rfl (Val.assign rfl) ?_)
     refine TL.nil ?_
     refine TQ.then_ ?_
     refine TC.ret ?_
     exact TQ.fin (v := .int .i64 (-1)) (.inl rfl) rfl Tryd.results78 (.tmp rfl .nil) rfl (fun W hO => ⟨(-1), h, rfl, hO.selT (Ls := [Blk b6 [.int .i64 a0.f0, .slice A1 a0.f1.length c2] 27, Blk b7 [.int .i64 a1] 3, Blk b8 [.bool false] 4, Mk []]) [0, 1, 2, 3] 4 rfl rfl rfl⟩)
    ·
     refine TC.block ?_
     intro a W hF hO
     have hS : ∃ (x2937 : Int), code_Right.l2 a0 j387 (a0.f1.length + 1) x2937 = some o2986 ∧ Fr 19 a [(0, .slice A1 a0.f1.length c2), (1, .func (.func 48) #[] #[.pointer (some ⟨b6, 0, none⟩)]), (7, .int .i64 (a0.f1.length : Int)), (8, .int .i64 x2937)] ∧ Own G (Blk b6 [.int .i64 a0.f0, .slice A1 a0.f1.length c2] 27 :: Blk b7 [.int .i64 a1] 3 :: Blk b8 [.bool false] 4 :: Mk [] :: L) W := by
      exact ⟨0, ho2986, hF.sub ⟨rfl, rfl, rfl, rfl, trivial⟩, hO.selT (Ls := [Blk b6 [.int .i64 a0.f0, .slice A1 a0.f1.length c2] 27, Blk b7 [.int .i64 a1] 3, Blk b8 [.bool false] 4, Mk []]) [0, 1, 2, 3] 4 rfl rfl rfl⟩
     clear hF hO ho2986
     refine TC.loop (fun n2987 a W => ∃ (x2937 : Int), code_Right.l2 a0 j387 n2987 x2937 = some o2986 ∧ Fr 19 a [(0, .slice A1 a0.f1.length c2), (1, .func (.func 48) #[] #[.pointer (some ⟨b6, 0, none⟩)]), (7, .int .i64 (a0.f1.length : Int)), (8, .int .i64 x2937)] ∧ Own G (Blk b6 [.int .i64 a0.f0, .slice A1 a0.f1.length c2] 27 :: Blk b7 [.int .i64 a1] 3 :: Blk b8 [.bool false] 4 :: Mk [] :: L) W) ?_ ?_ hS
     ·
      rintro a W ⟨x2937, h, hF, hO⟩
      exact none_no h
     ·
      clear hS
      rintro n2987 a W ⟨x2937, h, hF, hO⟩
      rw [code_Right.l2] at h
      refine TC.use ?_ hF hO
      clear hF hO
      refine TC.seq ?_
      refine TC.region ?_
      refine TL.cons (TO.val rfl rfl rfl (Val.cmp rfl rfl run_lss) ?_)
      refine TL.nil ?_
      refine TQ.then_ ?_
      refine TC.seq ?_
      refine TC.cond_p rfl h (fun hc3037 h => ?_) (fun hc3037 h => ?_)
      ·
       refine TC.skip ?_
       refine TQ.then_ ?_
       refine TC.seq ?_
       refine TC.block ?_
       refine TC.seq ?_
       refine TC.region ?_
       refine TL.cons (TO.val rfl rfl rfl (Val.move rfl) ?_)
       refine TL.cons (TO.val rfl rfl rfl (Val.assign rfl) ?_)
       refine TL.nil ?_
       refine TQ.then_ ?_
       refine TC.seq ?_
       refine TC.region ?_
       refine TL.cons (TO.val rfl rfl rfl (Val.move rfl) ?_)
       refine TL.cons (TO.val rfl rfl rfl (Val.move rfl) ?_)
       refine TL.cons (TO.val rfl rfl rfl (Val.move rfl) ?_)
       obtain ⟨y3061, hx3062, h⟩ := bind_no h
       obtain ⟨ad3063, cs3069, hA3064, hi3065, hj3066, hcl3067, hK3068⟩ := Rd.at hr3 hx3062
       obtain ⟨A3070, c3071, rfl, hr3072, hl3073⟩ := k37_openR hK3068
       refine TL.cons (TO.val rfl rfl rfl (Val.indexAddr Tryd.underlying25 fsz37 rfl hA3064 rfl hi3065 hj3066) ?_)
       refine TL.cons (TO.val rfl rfl rfl (Val.loadsS (cs := [.slice A3070 y3061.f0.length c3071, .int .i64 y3061.f1.f0, .int .i64 y3061.f1.f1, .int .i64 y3061.f1.f2, .int .i64 y3061.f1.f3]) agg37 fsz37 rfl rfl (Cl.sub (off := 0) (n := 5) hcl3067 rfl)) ?_)
       refine TL.cons (TO.inl (args := [.agg #[.slice A3070 y3061.f0.length c3071, .int .i64 y3061.f1.f0, .int .i64 y3061.f1.f1, .int .i64 y3061.f1.f2, .int .i64 y3061.f1.f3], .pointer (some ⟨b6, 0, none⟩)]) (e' := [(0, .agg #[.slice A3070 y3061.f0.length c3071, .int .i64 y3061.f1.f0, .int .i64 y3061.f1.f1, .int .i64 y3061.f1.f2, .int .i64 y3061.f1.f3]), (1, .pointer (some ⟨b6, 0, none⟩))]) 11 rfl rfl hbd48 rfl rfl Tryd.func48 rfl Tryd.ntmps48 rfl rfl (Nat.le_of_ble_eq_true rfl) (fun a3074 hf3075 => ?_))
       refine TC.seq ?_
       refine TC.region ?_
       refine TL.cons (TL.box (cs := [.slice A3070 y3061.f0.length c3071, .int .i64 y3061.f1.f0, .int .i64 y3061.f1.f1, .int .i64 y3061.f1.f2, .int .i64 y3061.f1.f3]) rfl rfl rfl rfl (fun b3079 => ?_))
       refine TL.cons (TO.val rfl rfl rfl (Val.assign rfl) ?_)
       refine TL.nil ?_
       refine TQ.then_ ?_
       refine TC.seq ?_
       refine TC.region ?_
       refine TL.cons (TO.val rfl rfl rfl (Val.fieldAddrB Tryd.underlying37 rfl fsz35 rfl rfl rfl) ?_)
       refine TL.cons (TO.val rfl rfl rfl (Val.loadsB 0 (cs := [.int .i64 y3061.f1.f0, .int .i64 y3061.f1.f1, .int .i64 y3061.f1.f2, .int .i64 y3061.f1.f3]) agg35 fsz35 rfl rfl rfl rfl) ?_)
       refine TL.cons (TO.val rfl rfl rfl (Val.fieldAddrB Tryd.underlying27 rfl fsz25 rfl rfl rfl) ?_)
       refine TL.cons (TO.val rfl rfl rfl (Val.loadB 1 agg25 rfl rfl rfl) ?_)
       refine TL.cons (TO.val rfl rfl rfl (Val.len Tryd.underlying25 rfl) ?_)
       obtain ⟨y3080, hy3081, h⟩ := bind_no h
       refine TL.cons (TL.callV (Lin := []) (args := [.agg #[.int .i64 y3061.f1.f0, .int .i64 y3061.f1.f1, .int .i64 y3061.f1.f2, .int .i64 y3061.f1.f3], .int .i64 (a0.f1.length : Int)]) rfl rfl rfl hbd49 rfl rfl (code_rightTerm.calls (a0 := y3061.f1) (a1 := (a0.f1.length : Int)) hy3081) rfl ?_)
       rintro _ _ _ _ ⟨rfl, rfl, rfl⟩
       refine TL.cons (TO.val rfl rfl rfl (Val.not_ rfl) ?_)
       refine TL.cons (TO.val rfl rfl rfl (Val.assign rfl) ?_)
       refine TL.nil ?_
       refine TQ.then_ ?_
       refine TC.ret ?_
       refine TQ.fin (v := .bool (!y3080)) (.inl rfl) rfl Tryd.results48 (.tmp rfl .nil) rfl (After.mk hf3075 rfl ?_)
       refine TL.nil ?_
       refine TQ.then_ ?_
       refine TC.cond_b rfl h (fun hc3083 h => ?_) (fun hc3083 h => ?_)
       ·
        refine TC.seq ?_
        refine TC.region ?_
        refine TL.cons (TO.val rfl rfl rfl (Val.move rfl) ?_)
        refine TL.cons (TO.val rfl rfl rfl (Val.assign rfl) ?_)
        refine TL.nil ?_
        refine TQ.then_ ?_
        refine TC.ret ?_
        refine TQ.inBR ?_
        refine TQ.thenR ?_
        refine TQ.thenR ?_
        refine TQ.inBR ?_
        refine TQ.thenR ?_
        refine TQ.thenR ?_
        obtain ⟨q_, hq_, h⟩ := bind_no h
        obtain rfl := Option.some.inj h
        have h := ko2986
        obtain rfl := Option.some.inj h
        have h := hq_
        clear hq_
        exact TQ.fin (v := .int .i64 x2937) (.inl rfl) rfl Tryd.results78 (.tmp rfl .nil) rfl (fun W hO => ⟨x2937, h, rfl, hO.selT (Ls := [Blk b6 [.int .i64 a0.f0, .slice A1 a0.f1.length c2] 27, Blk b7 [.int .i64 a1] 3, Blk b8 [.bool false] 4, Mk []]) [1, 2, 3, 4] 5 rfl rfl rfl⟩)
       ·
        refine TC.skip ?_
        refine TQ.inB ?_
        refine TQ.then_ ?_
        refine TC.region ?_
        refine TL.cons (TO.val rfl rfl rfl (Val.cmp rfl rfl run_add) ?_)
        refine TL.cons (TO.val rfl rfl rfl (Val.move rfl) ?_)
        refine TL.nil ?_
        exact fun a W hF hO => ⟨IntKind.i64.wrap (x2937 + 1), h, hF.sub ⟨rfl, rfl, rfl, rfl, trivial⟩, hO.selT (Ls := [Blk b6 [.int .i64 a0.f0, .slice A1 a0.f1.length c2] 27, Blk b7 [.int .i64 a1] 3, Blk b8 [.bool false] 4, Mk []]) [1, 2, 3, 4] 5 rfl rfl rfl⟩
      ·
       refine TC.exit ?_
       refine TQ.thenX ?_
       refine TQ.thenX ?_
       refine TQ.inBX ?_
       exact fun a W hF hO => ⟨Option.some.inj h, hF.sub trivial, hO.selT (Ls := [Blk b6 [.int .i64 a0.f0, .slice A1 a0.f1.length c2] 27, Blk b7 [.int .i64 a1] 3, Blk b8 [.bool false] 4, Mk []]) [0, 1, 2, 3] 4 rfl rfl rfl⟩
 ·
  refine TC.region ?_
  refine TL.cons (TO.val rfl rfl rfl (Val.fieldAddrB Tryd.underlying27 rfl fsz25 rfl rfl rfl) ?_)
  refine TL.cons (TO.val rfl rfl rfl (Val.loadB 2 agg25 rfl rfl rfl) ?_)
  refine TL.cons (TO.val rfl rfl rfl (Val.len Tryd.underlying25 rfl) ?_)
  obtain ⟨y3084, hy3085, h⟩ := bind_no h
  refine TL.cons (TL.callV (Lin := []) (args := [.int .i64 (a0.f1.length : Int), .int .i64 1, .int .i64 4096]) rfl rfl rfl hbd45 rfl rfl (code_within.calls (a0 := (a0.f1.length : Int)) (a1 := 1) (a2 := 4096) hy3085) rfl ?_)
  rintro _ _ _ _ ⟨rfl, rfl, rfl⟩
  refine TL.cons (TO.val rfl rfl rfl (Val.not_ rfl) ?_)
  refine TL.cons (TO.val rfl rfl rfl (Val.move rfl) ?_)
  refine TK.split (p := (!y3084) = true) h (fun hg3086 h => ?_) (fun hg3086 h => ?_)
  ·
   have hk3087 : (!y3084) = true := hg3086
   refine TL.cons (TL.not (Wt.no rfl rfl rfl hk3087) rfl ?_)
   refine TL.cons (TL.not (Wt.no rfl rfl rfl hk3087) rfl ?_)
   refine TL.cons (TL.not (Wt.no rfl rfl rfl hk3087) rfl ?_)
   refine TL.cons (TL.not (Wt.no rfl rfl rfl hk3087) rfl ?_)
   refine TL.cons (TO.val rfl rfl rfl (Val.pickY rfl hk3087 rfl) ?_)
   refine TL.nil ?_
   exact fun a W hF hO => ⟨true, h, hF.sub ⟨rfl, rfl, rfl, rfl, trivial⟩, hO.selT (Ls := [Blk b6 [.int .i64 a0.f0, .slice A1 a0.f1.length c2] 27, Blk b7 [.int .i64 a1] 3, Blk b8 [.bool false] 4, Mk []]) [2, 1, 0, 3] 4 rfl rfl rfl⟩
  ·
   have hk3088 : (!y3084) = false := (by simpa using hg3086)
   refine TL.cons (TO.val (Wt.yes rfl rfl rfl hk3088) rfl rfl (Val.fieldAddrB Tryd.underlying27 rfl fsz3 rfl rfl rfl) ?_)
   refine TL.cons (TO.val (Wt.yes rfl rfl rfl hk3088) rfl rfl (Val.loadB 2 agg3 rfl rfl rfl) ?_)
   obtain ⟨y3089, hy3090, h⟩ := bind_no h
   refine TL.cons (TL.callV (Lin := []) (args := [.int .i64 a0.f0, .int .i64 0, .int .i64 8]) (Wt.yes rfl rfl rfl hk3088) rfl rfl hbd45 rfl rfl (code_within.calls (a0 := a0.f0) (a1 := 0) (a2 := 8) hy3090) rfl ?_)
   rintro _ _ _ _ ⟨rfl, rfl, rfl⟩
   refine TL.cons (TO.val (Wt.yes rfl rfl rfl hk3088) rfl rfl (Val.not_ rfl) ?_)
   refine TL.cons (TO.val rfl rfl rfl (Val.pickN rfl hk3088 rfl) ?_)
   refine TL.nil ?_
   exact fun a W hF hO => ⟨(!y3089), h, hF.sub ⟨rfl, rfl, rfl, rfl, trivial⟩, hO.selT (Ls := [Blk b6 [.int .i64 a0.f0, .slice A1 a0.f1.length c2] 27, Blk b7 [.int .i64 a1] 3, Blk b8 [.bool false] 4, Mk []]) [2, 1, 0, 3] 4 rfl rfl rfl⟩
end Go.Proofs.YtmacdhkfgoahcaaDoor.Sy
set_option linter.unusedVariables false
set_option linter.unusedSimpArgs false
namespace Go.Proofs.YtmacdhkfgoahcaaDoor.Sy
open Go Go.RowKit Go.Proofs.YtmacdhkfgoahcaaDoorW.PrintWords Go.Proofs.YtmacdhkfgoahcaaDoor.SyO
/-! #### Walks by number -/
theorem drop_nil {α : Type} {l : List α} {i : Nat} (h : l.drop i = []) : ¬ ((i : Int) < (l.length : Int)) := by
  have := List.drop_eq_nil_iff.1 h; omega
theorem drop_cons {α : Type} {l r : List α} {y : α} {i : Nat} (h : l.drop i = y :: r) : (i : Int) < (l.length : Int) ∧ at? l (i : Int) = some y ∧ l.drop (i + 1) = r ∧ y ∈ l := by
  have hl : i < l.length := by
    apply Classical.byContradiction; intro hn
    rw [List.drop_eq_nil_of_le (by omega)] at h; cases h
  rw [List.drop_eq_getElem_cons hl] at h
  injection h with h1 h2
  refine ⟨by omega, ?_, h2, by rw [← h1]; exact List.getElem_mem hl⟩
  unfold at?
  rw [if_pos (by omega)]
  simp [List.getElem?_eq_getElem hl, h1]
theorem w64 {n : Int} (h0 : -9223372036854775808 ≤ n) (h1 : n ≤ 9223372036854775807) : IntKind.i64.wrap n = n := by
  rw [IntKind.wrap_i64]; omega
theorem wsucc {i : Nat} (h : i ≤ 140737488355328) : IntKind.i64.wrap ((i : Int) + 1) = ((i + 1 : Nat) : Int) := by
  rw [w64 (by omega) (by omega)]; omega
theorem i64_of_wf {n : Int} (h : (Lit.int .i64 n).wf = true) : -9223372036854775808 ≤ n ∧ n ≤ 9223372036854775807 := by
  simp [Lit.wf, IntKind.min, IntKind.max, IntKind.signed, IntKind.bits] at h
  omega
/-! #### Few -/
def opsN (l : List S37) : Nat := (l.map (·.f0.length)).sum
theorem few_l1 {t : S27} {j : Nat} {y : S37} (hy : at? t.f1 (j : Int) = some y) (hl : y.f0.length ≤ 140737488355328) :
    ∀ (ys : List S40) (n i : Nat), y.f0.drop i = ys → ys.length < n → ∃ r, swagelaw14_Few.l1 t j n i = some r ∧ (r = .inl (.inl false) ∨ r = .inr () ∧ ∀ k o, ys[k]? = some o → i + k < 300 → o.f5.length ≤ 20) := by
  intro ys
  induction ys with
  | nil =>
    intro n i hdr hn
    obtain ⟨n, rfl⟩ : ∃ m, n = m + 1 := ⟨n - 1, by simp at hn; omega⟩
    rw [swagelaw14_Few.l1]
    simp only [jn, hy, Option.bind_some]
    rw [if_neg (drop_nil hdr)]
    exact ⟨_, rfl, .inr ⟨rfl, fun k o hk => by simp at hk⟩⟩
  | cons o ys ih =>
    intro n i hdr hn
    obtain ⟨n, rfl⟩ : ∃ m, n = m + 1 := ⟨n - 1, by simp at hn; omega⟩
    obtain ⟨h1, h2, h3, h4⟩ := drop_cons hdr
    rw [swagelaw14_Few.l1]
    simp only [jn, hy, h2, Option.bind_some]
    rw [if_pos h1]
    by_cases hi : i < 300
    · rw [if_pos (decide_eq_true (by omega))]
      by_cases ha : (20 : Int) < (o.f5.length : Int)
      · rw [if_pos ha]
        exact ⟨_, rfl, .inl rfl⟩
      · rw [if_neg ha, wsucc (by omega)]
        obtain ⟨r, r1, r2⟩ := ih n (i + 1) h3 (by simp at hn; omega)
        refine ⟨r, r1, ?_⟩
        rcases r2 with r2 | ⟨r2, r3⟩
        · exact .inl r2
        · refine .inr ⟨r2, fun k o' hk hlt => ?_⟩
          cases k with
          | zero => simp at hk; subst hk; omega
          | succ k => exact r3 k o' (by simpa using hk) (by omega)
    · rw [if_neg (by simp; omega)]
      refine ⟨_, rfl, .inr ⟨rfl, fun k o' hk hlt => by omega⟩⟩
theorem few_l0 {t : S27} (hl : t.f1.length ≤ 140737488355328) (hk : ∀ y ∈ t.f1, y.f0.length ≤ 140737488355328) :
    ∀ (ys : List S37) (n i x : Nat), t.f1.drop i = ys → ys.length < n → x ≤ i * 140737488355328 →
      ∃ r, swagelaw14_Few.l0 t n x i = some r ∧ (r = .inl false ∨ ∃ z : Int, r = .inr z ∧ (∀ k y, ys[k]? = some y → i + k < 100 → ∀ j o, y.f0[j]? = some o → j < 300 → o.f5.length ≤ 20) ∧ (i + ys.length ≤ 100 → z = ((x + opsN ys : Nat) : Int))) := by
  intro ys
  induction ys with
  | nil =>
    intro n i x hdr hn hx
    obtain ⟨n, rfl⟩ : ∃ m, n = m + 1 := ⟨n - 1, by simp at hn; omega⟩
    rw [swagelaw14_Few.l0]
    simp only [jn]
    rw [if_neg (drop_nil hdr)]
    exact ⟨_, rfl, .inr ⟨_, rfl, fun k o hk => by simp at hk, fun _ => by simp [opsN]⟩⟩
  | cons y ys ih =>
    intro n i x hdr hn hx
    obtain ⟨n, rfl⟩ : ∃ m, n = m + 1 := ⟨n - 1, by simp at hn; omega⟩
    obtain ⟨h1, h2, h3, h4⟩ := drop_cons hdr
    have hky := hk y h4
    rw [swagelaw14_Few.l0]
    simp only [jn]
    rw [if_pos h1]
    by_cases hi : i < 100
    · rw [if_pos (decide_eq_true (by omega)), h2]
      simp only [Option.bind_some]
      obtain ⟨r, r1, r2⟩ := few_l1 h2 hky y.f0 (y.f0.length + 1) 0 (by simp) (by omega)
      have r1' : swagelaw14_Few.l1 t i (y.f0.length + 1) 0 = some r := r1
      have e0 : ((some y).elim 0 (fun vy2231 : S37 => vy2231.f0.length) + 1) = y.f0.length + 1 := rfl
      rw [e0, r1']
      simp only [Option.bind_some]
      rcases r2 with rfl | ⟨rfl, r3⟩
      · exact ⟨_, rfl, .inl rfl⟩
      · have e : IntKind.i64.wrap ((x : Int) + (y.f0.length : Int)) = ((x + y.f0.length : Nat) : Int) := by rw [w64 (by omega) (by omega)]; omega
        simp only []
        rw [e, wsucc (by omega)]
        obtain ⟨q, q1, q2⟩ := ih n (i + 1) (x + y.f0.length) h3 (by simp at hn; omega) (by omega)
        refine ⟨q, q1, ?_⟩
        rcases q2 with q2 | ⟨z, q2, q3, q4⟩
        · exact .inl q2
        · refine .inr ⟨z, q2, fun k y' hk' hlt => ?_, fun hlen => ?_⟩
          · cases k with
            | zero =>
              simp at hk'; subst hk'
              intro j o hj hj3
              exact r3 j o hj (by omega)
            | succ k => exact q3 k y' (by simpa using hk') (by omega)
          · rw [q4 (by simp at hlen; omega)]
            simp only [opsN, List.map_cons, List.sum_cons]; omega
    · rw [if_neg (by simp; omega)]
      exact ⟨_, rfl, .inr ⟨_, rfl, fun k y' hk' hlt => by omega, fun hlen => by simp at hlen; omega⟩⟩
theorem opsN_mem {l : List S37} {y : S37} (h : y ∈ l) : y.f0.length ≤ opsN l := by
  induction l with
  | nil => cases h
  | cons x r ih =>
    rcases List.mem_cons.1 h with rfl | h
    · simp [opsN]
    · have := ih h; simp only [opsN, List.map_cons, List.sum_cons] at this ⊢; omega
/-- What Few lets in. -/
def Fewp (t : S27) : Prop := t.f1.length ≤ 40 ∧ opsN t.f1 ≤ 250 ∧ ∀ y ∈ t.f1, y.f0.length ≤ 250 ∧ ∀ o ∈ y.f0, o.f5.length ≤ 20
theorem few_f {t : S27} (h : ok27 t) : ∃ b, swagelaw14_Few.f t = some b ∧ (b = true → Fewp t) := by
  have hl : t.f1.length ≤ 140737488355328 := by have := h.2.1; omega
  have hk : ∀ y ∈ t.f1, y.f0.length ≤ 140737488355328 := fun y hy => by have := (h.2.2 y hy).1.1; omega
  obtain ⟨r, r1, r2⟩ := few_l0 hl hk t.f1 (t.f1.length + 1) 0 0 (by simp) (by omega) (by omega)
  have r1' : swagelaw14_Few.l0 t (t.f1.length + 1) 0 0 = some r := r1
  unfold swagelaw14_Few.f
  rw [r1']
  simp only [Option.bind_some]
  rcases r2 with rfl | ⟨z, rfl, r3, r4⟩
  · exact ⟨false, rfl, fun h => by cases h⟩
  · by_cases h40 : (t.f1.length : Int) ≤ 40
    · refine ⟨decide (z ≤ 250), by simp [h40], fun hz => ?_⟩
      have hz : z ≤ 250 := of_decide_eq_true hz
      have e := r4 (by omega)
      have ho : opsN t.f1 ≤ 250 := by omega
      refine ⟨by omega, ho, fun y hy => ?_⟩
      have h1 := opsN_mem hy
      refine ⟨by omega, fun o hox => ?_⟩
      obtain ⟨k, hk'⟩ := List.getElem?_of_mem hy
      obtain ⟨j, hj⟩ := List.getElem?_of_mem hox
      have hkl := (List.getElem?_eq_some_iff.1 hk').1
      have hjl := (List.getElem?_eq_some_iff.1 hj).1
      exact r3 k y hk' (by omega) j o hj (by omega)
    · exact ⟨false, by simp [h40], fun h => by cases h⟩
/-! #### Right -/
abbrev Rg (n : Int) : Prop := 1 ≤ n ∧ n ≤ 4096
/-- A right operation. -/
def Ro (o : S40) : Prop :=
  (o.f0 = 1 ∧ Rg o.f1 ∧ o.f2 = 0 ∧ o.f3 = 0 ∧ o.f5 = []) ∨ (o.f0 = 2 ∧ Rg o.f1 ∧ Rg o.f2 ∧ Rg o.f3 ∧ o.f5 = []) ∨ (o.f0 = 3 ∧ Rg o.f1 ∧ Rg o.f2 ∧ o.f3 = 0 ∧ o.f4 = 0 ∧ o.f5 = []) ∨
  (o.f0 = 4 ∧ Rg o.f1 ∧ Rg o.f2 ∧ o.f3 = 0 ∧ o.f5 = []) ∨ (o.f0 = 5 ∧ o.f1 = 0 ∧ Rg o.f2 ∧ Rg o.f3 ∧ o.f5 = []) ∨ (o.f0 = 6 ∧ Rg o.f1 ∧ o.f2 = 0 ∧ o.f3 = 0 ∧ o.f5 = []) ∨
  (o.f0 = 7 ∧ Rg o.f1 ∧ o.f2 = 0 ∧ o.f3 = 0 ∧ ∀ a ∈ o.f5, Rg a) ∨ (o.f0 = 8 ∧ Rg o.f1 ∧ o.f2 = 0 ∧ o.f3 = 0 ∧ o.f4 = 0 ∧ o.f5 = []) ∨ (o.f0 = 9 ∧ o.f1 = 0 ∧ Rg o.f2 ∧ o.f3 = 0 ∧ o.f4 = 0 ∧ o.f5 = [])
/-- A right Term, of so many blocks. -/
def Rt (t : S35) (n : Nat) : Prop :=
  (t.f0 = 1 ∧ 0 ≤ t.f2 ∧ t.f2 < n ∧ t.f1 = 0 ∧ t.f3 = 0) ∨ (t.f0 = 2 ∧ 0 ≤ t.f2 ∧ t.f2 < n ∧ 0 ≤ t.f3 ∧ t.f3 < n ∧ Rg t.f1) ∨ (t.f0 = 3 ∧ Rg t.f1 ∧ t.f2 = 0 ∧ t.f3 = 0) ∨ (t.f0 = 4 ∧ t.f1 = 0 ∧ t.f3 = 0)
theorem within_f (a b c : Int) : code_within.f a b c = some (decide (b ≤ a ∧ a ≤ c)) := by
  unfold code_within.f
  by_cases h : b ≤ a <;> simp [h]
theorem reg_f (a : Int) : code_reg.f a = some (decide (Rg a)) := by
  unfold code_reg.f Rg
  rw [within_f]; rfl
theorem field_f (a : Int) (b : Bool) : code_field.f a b = some (if b then decide (Rg a) else decide (a = 0)) := by
  unfold code_field.f
  rw [reg_f]
  by_cases h : a = 0
  · cases b <;> simp [h]
  · cases b <;> simp [h]
theorem rop_l0 {o : S40} (hl : o.f5.length ≤ 1000) : ∀ (ys : List Int) (n i : Nat), o.f5.drop i = ys → ys.length < n → ∃ r, code_RightOp.l0 o (fun x => some (!(decide (0 ≤ x)))) n i = some r ∧ (r = .inl false ∨ r = .inr () ∧ ∀ a ∈ ys, Rg a) := by
  intro ys
  induction ys with
  | nil =>
    intro n i hdr hn
    obtain ⟨n, rfl⟩ : ∃ m, n = m + 1 := ⟨n - 1, by simp at hn; omega⟩
    rw [code_RightOp.l0, if_neg (drop_nil hdr)]
    exact ⟨_, rfl, .inr ⟨rfl, fun a ha => by cases ha⟩⟩
  | cons y ys ih =>
    intro n i hdr hn
    obtain ⟨n, rfl⟩ : ∃ m, n = m + 1 := ⟨n - 1, by simp at hn; omega⟩
    obtain ⟨h1, h2, h3, h4⟩ := drop_cons hdr
    rw [code_RightOp.l0, if_pos h1, h2]
    simp only [Option.bind_some]
    unfold code_RightOp_1.f
    rw [reg_f]
    simp only [Option.bind_some]
    by_cases hr : Rg y
    · rw [decide_eq_true hr]
      simp only [Bool.not_true, Bool.false_eq_true, if_false]
      rw [wsucc (by omega)]
      obtain ⟨r, r1, r2⟩ := ih n (i + 1) h3 (by simp at hn; omega)
      refine ⟨r, r1, ?_⟩
      rcases r2 with r2 | ⟨r2, r3⟩
      · exact .inl r2
      · exact .inr ⟨r2, fun a ha => by
          rcases List.mem_cons.1 ha with rfl | ha
          · exact hr
          · exact r3 a ha⟩
    · rw [decide_eq_false hr]
      simp only [Bool.not_false, if_true]
      exact ⟨_, rfl, .inl (by simp)⟩
theorem shape_f (k : Int) : code_shapeOf.f k = some (if k = 1 ∨ k = 6 ∨ k = 7 then (⟨true, false, false, true⟩, true) else if k = 2 then (⟨true, true, true, true⟩, true) else if k = 3 then (⟨true, true, false, false⟩, true) else if k = 4 then (⟨true, true, false, true⟩, true) else if k = 5 then (⟨false, true, true, true⟩, true) else if k = 8 then (⟨true, false, false, false⟩, true) else if k = 9 then (⟨false, true, false, false⟩, true) else (⟨false, false, false, false⟩, false)) := by
  unfold code_shapeOf.f
  simp only [jn]
  by_cases h1 : k = 1
  · simp [h1]
  by_cases h6 : k = 6
  · simp [h6]
  by_cases h7 : k = 7
  · simp [h7]
  simp [h1, h6, h7]
  repeat' (first | rfl | split)
theorem known_f (a : Int) : ∃ b, word_Known.f a = some b := by
  unfold word_Known.f
  by_cases h : 1 ≤ a <;> simp [h]
theorem imm_f (o : S40) (s : S70) (k : Int) : ∃ b, code_immediate.f o s k = some b ∧ (b = true → s.f3 = false → o.f0 ≠ 2 ∧ o.f0 ≠ 4 ∧ o.f0 ≠ 5 ∧ o.f0 ≠ 6 ∧ o.f0 ≠ 7 → o.f4 = 0) := by
  unfold code_immediate.f
  simp only [jn, within_f, Option.bind_some]
  obtain ⟨b, hb⟩ := known_f o.f4
  rw [hb]
  by_cases h2 : o.f0 = 2
  · exact ⟨b, by simp [h2], fun _ _ h => absurd h2 h.1⟩
  by_cases h4 : o.f0 = 4
  · exact ⟨_, by simp [h4]; rfl, fun _ _ h => absurd h4 h.2.1⟩
  by_cases h5 : o.f0 = 5
  · exact ⟨_, by simp [h5]; rfl, fun _ _ h => absurd h5 h.2.2.1⟩
  by_cases h6 : o.f0 = 6
  · exact ⟨_, by simp [h6]; rfl, fun _ _ h => absurd h6 h.2.2.2.1⟩
  by_cases h7 : o.f0 = 7
  · exact ⟨_, by simp [h7]; rfl, fun _ _ h => absurd h7 h.2.2.2.2⟩
  cases hs : s.f3 with
  | true => exact ⟨true, by simp [h2, h4, h5, h6, h7], fun _ h => by cases h⟩
  | false => exact ⟨decide (o.f4 = 0), by simp [h2, h4, h5, h6, h7], fun h _ _ => of_decide_eq_true h⟩
theorem rop_f (o : S40) (k : Int) (hl : o.f5.length ≤ 20) : ∃ b, code_RightOp.f o k = some b ∧ (b = true → Ro o) := by
  obtain ⟨r, r1, r2⟩ := rop_l0 (o := o) (by omega) o.f5 (o.f5.length + 1) 0 (by simp) (by omega)
  have r1' : code_RightOp.l0 o (fun x => some (!(decide (0 ≤ x)))) (o.f5.length + 1) 0 = some r := r1
  unfold code_RightOp.f
  rw [shape_f]
  simp only [jn, field_f, Option.bind_some]
  by_cases hk : o.f0 = 1 ∨ o.f0 = 2 ∨ o.f0 = 3 ∨ o.f0 = 4 ∨ o.f0 = 5 ∨ o.f0 = 6 ∨ o.f0 = 7 ∨ o.f0 = 8 ∨ o.f0 = 9
  · obtain ⟨s, hs, hsp⟩ : ∃ s : S70, (if o.f0 = 1 ∨ o.f0 = 6 ∨ o.f0 = 7 then ((⟨true, false, false, true⟩, true) : S70 × Bool) else if o.f0 = 2 then (⟨true, true, true, true⟩, true) else if o.f0 = 3 then (⟨true, true, false, false⟩, true) else if o.f0 = 4 then (⟨true, true, false, true⟩, true) else if o.f0 = 5 then (⟨false, true, true, true⟩, true) else if o.f0 = 8 then (⟨true, false, false, false⟩, true) else if o.f0 = 9 then (⟨false, true, false, false⟩, true) else (⟨false, false, false, false⟩, false)) = (s, true) ∧
        ((if s.f0 then Rg o.f1 else o.f1 = 0) → (if s.f1 then Rg o.f2 else o.f2 = 0) → (if s.f2 then Rg o.f3 else o.f3 = 0) → ((s.f3 = false → o.f0 ≠ 2 ∧ o.f0 ≠ 4 ∧ o.f0 ≠ 5 ∧ o.f0 ≠ 6 ∧ o.f0 ≠ 7 → o.f4 = 0)) → (if o.f0 = 7 then ∀ a ∈ o.f5, Rg a else o.f5 = []) → Ro o) := by
      unfold Ro
      rcases hk with h | h | h | h | h | h | h | h | h <;> simp [h] <;> grind
    rw [hs]
    simp only [Bool.not_true, Bool.false_eq_true, if_false]
    obtain ⟨b4, hb4, hb4p⟩ := imm_f o s k
    rw [hb4]
    simp only [Option.bind_some]
    by_cases c1 : (if s.f0 = true then decide (Rg o.f1) else decide (o.f1 = 0)) = true
    · rw [c1]
      simp only [Bool.not_true, Bool.false_eq_true, if_false]
      by_cases c2 : (if s.f1 = true then decide (Rg o.f2) else decide (o.f2 = 0)) = true
      · rw [c2]
        simp only [Bool.not_true, Bool.false_eq_true, if_false]
        by_cases c3 : (if s.f2 = true then decide (Rg o.f3) else decide (o.f3 = 0)) = true
        · rw [c3]
          simp only [Bool.not_true, Bool.false_eq_true, if_false]
          cases b4 with
          | false => exact ⟨false, by simp, fun h => by cases h⟩
          | true =>
            simp only [Bool.not_true, Bool.false_eq_true, if_false]
            have fin : (if o.f0 = 7 then ∀ a ∈ o.f5, Rg a else o.f5 = []) → Ro o := fun h5 => hsp
              (by cases h0 : s.f0 <;> rw [h0] at c1 <;> simpa using c1) (by cases h0 : s.f1 <;> rw [h0] at c2 <;> simpa using c2) (by cases h0 : s.f2 <;> rw [h0] at c3 <;> simpa using c3) (hb4p rfl) h5
            by_cases h7 : o.f0 = 7
            · simp only [h7, decide_true, Bool.not_true, Bool.false_eq_true, if_false]
              by_cases h8 : (o.f5.length : Int) ≤ 8
              · rw [if_pos h8, r1']
                simp only [Option.bind_some]
                rcases r2 with rfl | ⟨rfl, r3⟩
                · exact ⟨false, rfl, fun h => by cases h⟩
                · exact ⟨true, by simp, fun _ => fin (by rw [if_pos h7]; exact r3)⟩
              · rw [if_neg h8]
                exact ⟨false, rfl, fun h => by cases h⟩
            · simp only [h7, decide_false, Bool.not_false, if_true]
              exact ⟨_, rfl, fun h => fin (by rw [if_neg h7]; have := of_decide_eq_true h; exact List.length_eq_zero_iff.1 (by omega))⟩
        · have c3' := Bool.eq_false_iff.2 c3
          rw [c3']
          exact ⟨false, by simp, fun h => by cases h⟩
      · have c2' := Bool.eq_false_iff.2 c2
        rw [c2']
        exact ⟨false, by simp, fun h => by cases h⟩
    · have c1' := Bool.eq_false_iff.2 c1
      rw [c1']
      exact ⟨false, by simp, fun h => by cases h⟩
  · have h1 : ¬ (o.f0 = 1 ∨ o.f0 = 6 ∨ o.f0 = 7) := by omega
    have h2 : ¬ o.f0 = 2 := by omega
    have h3 : ¬ o.f0 = 3 := by omega
    have h4 : ¬ o.f0 = 4 := by omega
    have h5 : ¬ o.f0 = 5 := by omega
    have h8 : ¬ o.f0 = 8 := by omega
    have h9 : ¬ o.f0 = 9 := by omega
    rw [if_neg h1, if_neg h2, if_neg h3, if_neg h4, if_neg h5, if_neg h8, if_neg h9]
    exact ⟨false, by simp, fun h => by cases h⟩
theorem rterm_f (t : S35) {n : Nat} (h1 : 1 ≤ n) (h2 : n ≤ 4096) : ∃ b, code_rightTerm.f t (n : Int) = some b ∧ (b = true → Rt t n) := by
  unfold code_rightTerm.f
  have hw : IntKind.i64.wrap ((n : Int) - 1) = (n : Int) - 1 := w64 (by omega) (by omega)
  simp only [within_f, reg_f, Option.bind_some, hw]
  by_cases c1 : t.f0 = 1
  · by_cases a : 0 ≤ t.f2 ∧ t.f2 ≤ (n : Int) - 1
    · refine ⟨(t.f1 == 0) && (t.f3 == 0), by simp [c1, a], fun h => ?_⟩
      simp at h
      exact .inl ⟨c1, a.1, by omega, h.1, h.2⟩
    · exact ⟨false, by simp [c1, a], fun h => by cases h⟩
  by_cases c2 : t.f0 = 2
  · by_cases a : 0 ≤ t.f2 ∧ t.f2 ≤ (n : Int) - 1
    · by_cases b : 0 ≤ t.f3 ∧ t.f3 ≤ (n : Int) - 1
      · refine ⟨decide (Rg t.f1), by simp [c2, a, b], fun h => ?_⟩
        exact .inr (.inl ⟨c2, a.1, by omega, b.1, by omega, of_decide_eq_true h⟩)
      · exact ⟨false, by simp [c2, a, b], fun h => by cases h⟩
    · exact ⟨false, by simp [c2, a], fun h => by cases h⟩
  by_cases c3 : t.f0 = 3
  · by_cases a : Rg t.f1
    · refine ⟨(t.f2 == 0) && (t.f3 == 0), by simp [c3, a], fun h => ?_⟩
      simp at h
      exact .inr (.inr (.inl ⟨c3, a, h.1, h.2⟩))
    · exact ⟨false, by simp [c3, a], fun h => by cases h⟩
  by_cases c4 : t.f0 = 4
  · by_cases a : 1 ≤ t.f2 ∧ t.f2 ≤ 15
    · refine ⟨(t.f1 == 0) && (t.f3 == 0), by simp [c4, a], fun h => ?_⟩
      simp at h
      exact .inr (.inr (.inr ⟨c4, h.1, h.2⟩))
    · exact ⟨false, by simp [c4, a], fun h => by cases h⟩
  · exact ⟨false, by simp [c1, c2, c3, c4], fun h => by cases h⟩
theorem right_l2 {t : S27} (h1 : 1 ≤ t.f1.length) (h2 : t.f1.length ≤ 4096) {j : Int → Option Bool} (hj : ∀ x : Nat, j x = some false) :
    ∀ (ys : List S37) (n i : Nat), t.f1.drop i = ys → ys.length < n → ∃ r, code_Right.l2 t j n i = some r ∧ (r = .inl false ∨ r = .inr () ∧ ∀ y ∈ ys, Rt y.f1 t.f1.length) := by
  intro ys
  induction ys with
  | nil =>
    intro n i hdr hn
    obtain ⟨n, rfl⟩ : ∃ m, n = m + 1 := ⟨n - 1, by simp at hn; omega⟩
    rw [code_Right.l2, if_neg (drop_nil hdr)]
    exact ⟨_, rfl, .inr ⟨rfl, fun a ha => by cases ha⟩⟩
  | cons y ys ih =>
    intro n i hdr hn
    obtain ⟨n, rfl⟩ : ∃ m, n = m + 1 := ⟨n - 1, by simp at hn; omega⟩
    obtain ⟨g1, g2, g3, g4⟩ := drop_cons hdr
    rw [code_Right.l2, if_pos g1, g2]
    simp only [Option.bind_some]
    obtain ⟨b, hb, hbp⟩ := rterm_f y.f1 h1 h2
    rw [hb]
    simp only [Option.bind_some]
    cases b with
    | false =>
      simp only [Bool.not_false, if_true]
      rw [hj i]
      exact ⟨_, rfl, .inl rfl⟩
    | true =>
      simp only [Bool.not_true, Bool.false_eq_true, if_false]
      rw [wsucc (by omega)]
      obtain ⟨r, r1, r2⟩ := ih n (i + 1) g3 (by simp at hn; omega)
      refine ⟨r, r1, ?_⟩
      rcases r2 with r2 | ⟨r2, r3⟩
      · exact .inl r2
      · exact .inr ⟨r2, fun a ha => by
          rcases List.mem_cons.1 ha with rfl | ha
          · exact hbp rfl
          · exact r3 a ha⟩
theorem right_l1 {y : S37} {k : Int} (hl : y.f0.length ≤ 250) (ha : ∀ o ∈ y.f0, o.f5.length ≤ 20) :
    ∀ (ys : List S40) (n i x : Nat), y.f0.drop i = ys → ys.length < n → x + ys.length ≤ 250 → ∃ r, code_Right.l1 k y n i x = some r ∧ (r = .inl (.inl false) ∨ r = .inr ((x + ys.length : Nat) : Int) ∧ ∀ o ∈ ys, Ro o) := by
  intro ys
  induction ys with
  | nil =>
    intro n i x hdr hn hx
    obtain ⟨n, rfl⟩ : ∃ m, n = m + 1 := ⟨n - 1, by simp at hn; omega⟩
    rw [code_Right.l1, if_neg (drop_nil hdr)]
    exact ⟨_, rfl, .inr ⟨rfl, fun a ha => by cases ha⟩⟩
  | cons o ys ih =>
    intro n i x hdr hn hx
    obtain ⟨n, rfl⟩ : ∃ m, n = m + 1 := ⟨n - 1, by simp at hn; omega⟩
    obtain ⟨g1, g2, g3, g4⟩ := drop_cons hdr
    simp only [List.length_cons] at hx
    rw [code_Right.l1, if_pos g1, g2]
    simp only [Option.bind_some, jn]
    rw [wsucc (i := x) (by omega), if_neg (by omega)]
    obtain ⟨b, hb, hbp⟩ := rop_f o k (ha o g4)
    rw [hb]
    simp only [Option.bind_some]
    cases b with
    | false => exact ⟨_, rfl, .inl rfl⟩
    | true =>
      simp only [Bool.not_true, Bool.false_eq_true, if_false]
      rw [wsucc (by omega)]
      obtain ⟨r, r1, r2⟩ := ih n (i + 1) (x + 1) g3 (by simp at hn; omega) (by omega)
      refine ⟨r, r1, ?_⟩
      rcases r2 with r2 | ⟨r2, r3⟩
      · exact .inl r2
      · refine .inr ⟨by rw [r2, List.length_cons]; congr 2; omega, fun a ha' => by
          rcases List.mem_cons.1 ha' with rfl | ha'
          · exact hbp rfl
          · exact r3 a ha'⟩
theorem right_l0 {t : S27} {k : Int} (hl : t.f1.length ≤ 40) (ho : ∀ y ∈ t.f1, y.f0.length ≤ 250 ∧ ∀ o ∈ y.f0, o.f5.length ≤ 20) :
    ∀ (ys : List S37) (n i x : Nat), t.f1.drop i = ys → ys.length < n → x + opsN ys ≤ 250 → ∃ r, code_Right.l0 t k n i x = some r ∧ (r = .inl false ∨ ∃ z, r = .inr z ∧ ∀ y ∈ ys, ∀ o ∈ y.f0, Ro o) := by
  intro ys
  induction ys with
  | nil =>
    intro n i x hdr hn hx
    obtain ⟨n, rfl⟩ : ∃ m, n = m + 1 := ⟨n - 1, by simp at hn; omega⟩
    rw [code_Right.l0, if_neg (drop_nil hdr)]
    exact ⟨_, rfl, .inr ⟨_, rfl, fun a ha => by cases ha⟩⟩
  | cons y ys ih =>
    intro n i x hdr hn hx
    obtain ⟨n, rfl⟩ : ∃ m, n = m + 1 := ⟨n - 1, by simp at hn; omega⟩
    obtain ⟨g1, g2, g3, g4⟩ := drop_cons hdr
    simp only [opsN, List.map_cons, List.sum_cons] at hx
    rw [code_Right.l0, if_pos g1, g2]
    simp only [Option.bind_some]
    obtain ⟨r, r1, r2⟩ := right_l1 (y := y) (k := k) (ho y g4).1 (ho y g4).2 y.f0 (y.f0.length + 1) 0 x (by simp) (by omega) (by omega)
    have r1' : code_Right.l1 k y (y.f0.length + 1) 0 x = some r := r1
    rw [r1']
    simp only [Option.bind_some]
    rcases r2 with rfl | ⟨rfl, r3⟩
    · exact ⟨_, rfl, .inl rfl⟩
    · simp only []
      rw [wsucc (by omega)]
      obtain ⟨q, q1, q2⟩ := ih n (i + 1) (x + y.f0.length) g3 (by simp at hn; omega) (by simp only [opsN]; omega)
      refine ⟨q, q1, ?_⟩
      rcases q2 with q2 | ⟨z, q2, q3⟩
      · exact .inl q2
      · exact .inr ⟨z, q2, fun a ha' => by
          rcases List.mem_cons.1 ha' with rfl | ha'
          · exact r3
          · exact q3 a ha'⟩
/-- A right function. -/
structure Rf (t : S27) : Prop where
  l1 : 1 ≤ t.f1.length
  p0 : 0 ≤ t.f0
  p1 : t.f0 ≤ 8
  term : ∀ y ∈ t.f1, Rt y.f1 t.f1.length
  op : ∀ y ∈ t.f1, ∀ o ∈ y.f0, Ro o
theorem right_f {t : S27} (hf : Fewp t) (k : Int) : ∃ b, code_Right.f t k = some b ∧ (b = true → Rf t) := by
  obtain ⟨f1, f2, f3⟩ := hf
  unfold code_Right.f
  simp only [jn, within_f, Option.bind_some]
  by_cases c1 : 1 ≤ (t.f1.length : Int) ∧ (t.f1.length : Int) ≤ 4096
  · rw [decide_eq_true c1]
    simp only [Bool.not_true, Bool.false_eq_true, if_false]
    by_cases c2 : 0 ≤ t.f0 ∧ t.f0 ≤ 8
    · rw [decide_eq_true c2]
      simp only [Bool.not_true, Bool.false_eq_true, if_false]
      obtain ⟨r, r1, r2⟩ := right_l2 (t := t) (by omega) (by omega) (j := fun x386 => if 0 ≤ x386 then some false else (code_Right.l0 t k (t.f1.length + 1) 0 0).bind fun | .inl q_ => some q_ | .inr x1878 => (some true)) (fun x => by rw [if_pos (by omega)]) t.f1 (t.f1.length + 1) 0 (by simp) (by omega)
      obtain ⟨q, q1, q2⟩ := right_l0 (t := t) (k := k) f1 f3 t.f1 (t.f1.length + 1) 0 0 (by simp) (by omega) (by omega)
      have q1' : code_Right.l0 t k (t.f1.length + 1) 0 0 = some q := q1
      rcases r2 with rfl | ⟨rfl, r3⟩
      · exact ⟨false, (congrArg (fun A : Option (Sum Bool Unit) => Option.bind A _) r1).trans rfl, fun h => by cases h⟩
      · rcases q2 with rfl | ⟨z, rfl, q3⟩
        · refine ⟨false, (congrArg (fun A : Option (Sum Bool Unit) => Option.bind A _) r1).trans ?_, fun h => by cases h⟩
          show (if (0 : Int) ≤ -1 then some false else (code_Right.l0 t k (t.f1.length + 1) 0 0).bind fun | .inl q_ => some q_ | .inr x1878 => (some true)) = _
          rw [if_neg (by omega)]
          exact (congrArg (fun A : Option (Sum Bool Int) => Option.bind A _) q1).trans rfl
        · refine ⟨true, (congrArg (fun A : Option (Sum Bool Unit) => Option.bind A _) r1).trans ?_, fun _ => ⟨by omega, c2.1, c2.2, r3, q3⟩⟩
          show (if (0 : Int) ≤ -1 then some false else (code_Right.l0 t k (t.f1.length + 1) 0 0).bind fun | .inl q_ => some q_ | .inr x1878 => (some true)) = _
          rw [if_neg (by omega)]
          exact (congrArg (fun A : Option (Sum Bool Int) => Option.bind A _) q1).trans rfl
    · rw [decide_eq_false c2]
      exact ⟨false, by simp, fun h => by cases h⟩
  · rw [decide_eq_false c1]
    exact ⟨false, by simp, fun h => by cases h⟩
end Go.Proofs.YtmacdhkfgoahcaaDoor.Sy
set_option linter.unusedVariables false
set_option linter.unusedSimpArgs false
set_option maxRecDepth 100000
set_option maxHeartbeats 4000000
namespace Go.Proofs.YtmacdhkfgoahcaaDoor.Sy
open Go Go.RowKit Go.Proofs.YtmacdhkfgoahcaaDoorW.PrintWords 
def slices_Equal_int_int.l0 (a0 : (List Int)) (a1 : (List Int)) : Nat → Int → Option (Sum Bool (Unit))
 | 0, _ => none
 | n248 + 1, x168 => (if x168 < (a0.length : Int) then (at? a0 x168).bind fun y385 => (at? a1 x168).bind fun y394 => (if (!decide (y385 = y394)) = true then some (.inl false) else slices_Equal_int_int.l0 a0 a1 n248 (IntKind.i64.wrap (x168 + 1))) else some (.inr ()))
def slices_Equal_int_int.f (a0 : (List Int)) (a1 : (List Int)) : Option Bool := (if (!decide ((a0.length : Int) = (a1.length : Int))) = true then some false else (slices_Equal_int_int.l0 a0 a1 (a0.length + 1) 0).bind fun | .inl q_ => some q_ | .inr _ => (some true))
def slices_Equal_int_int.post (G : Gd)  (r : Bool) (v : Value) (G' : Gd) (Lr : List Ch) : Prop := G = G' ∧ v = .bool r ∧ Lr = []
theorem slices_Equal_int_int.calls {G : Gd} {r : Bool} {a0 : (List Int)} {a1 : (List Int)} {A1 : Option Addr} {c2 : Nat} {A5 : Option Addr} {c6 : Nat} (hr3 : Rd G (Kd.int .i64) A1 a0) (hl4 : a0.length ≤ c2) (hr7 : Rd G (Kd.int .i64) A5 a1) (hl8 : a1.length ≤ c6) (h : slices_Equal_int_int.f a0 a1 = some r) : Fn Tryd.prog 76 G [] [.slice A1 a0.length c2, .slice A5 a1.length c6] (slices_Equal_int_int.post G  r) := by
 refine Fn.intro (e := [(0, .slice A1 a0.length c2), (1, .slice A5 a1.length c6)]) 26 Tryd.func76 rfl Tryd.ntmps76 rfl rfl (Nat.le_of_ble_eq_true rfl) (fun L => ?_)
 unfold slices_Equal_int_int.f at h
 refine TC.seq ?_
 refine TC.region ?_
 refine TL.cons (TO.val rfl rfl rfl (Val.assign rfl) ?_)
 refine TL.nil ?_
 refine TQ.then_ ?_
 refine TC.seq ?_
 refine TC.seq ?_
 refine TC.region ?_
 refine TL.cons (TO.val rfl rfl rfl (Val.move rfl) ?_)
 refine TL.cons (TO.val rfl rfl rfl (Val.len Tryd.underlying38 rfl) ?_)
 refine TL.cons (TO.val rfl rfl rfl (Val.move rfl) ?_)
 refine TL.cons (TO.val rfl rfl rfl (Val.len Tryd.underlying38 rfl) ?_)
 refine TL.cons (TO.val rfl rfl rfl (Val.cmp rfl rfl run_neq) ?_)
 refine TL.nil ?_
 refine TQ.then_ ?_
 refine TC.cond_b rfl h (fun hc10 h => ?_) (fun hc10 h => ?_)
 ·
  refine TC.seq ?_
  refine TC.region ?_
  refine TL.cons (TO.val rfl rfl rfl (Val.assign rfl) ?_)
  refine TL.nil ?_
  refine TQ.then_ ?_
  refine TC.ret ?_
  refine TQ.thenR ?_
  obtain rfl := Option.some.inj h
  exact TQ.fin (.inl rfl) rfl Tryd.results76 (.tmp rfl .nil) rfl (FRel.mk (Ls := []) [] 0 (Gd.le.refl _) rfl rfl rfl ⟨rfl, rfl, rfl⟩)
 ·
  refine TC.skip ?_
  refine TQ.then_ ?_
  refine TC.seq ?_
  refine TC.seq ?_
  refine TC.region ?_
  refine TL.cons (TO.val rfl rfl rfl (Val.move rfl) ?_)
  refine TL.cons (TO.val rfl rfl rfl (Val.len Tryd.underlying38 rfl) ?_)
  refine TL.cons (TO.val rfl rfl rfl (Val.move rfl) ?_)
  refine TL.nil ?_
  refine TQ.then_ ?_
  obtain ⟨o247, ho247, ko247⟩ := bind_no h
  clear h
  refine TC.tail (fun a W => (.inr ()) = o247 ∧ Fr 26 a [] ∧ Own G (L) W) ?_ ?_
  ·
   rintro a W ⟨rfl, hF, hO⟩
   have h := ko247
   clear ko247 ho247
   refine TQ.use ?_ hF hO
   clear hF hO
   refine TQ.then_ ?_
   refine TC.seq ?_
   refine TC.region ?_
   refine TL.cons (TO.val rfl rfl rfl (Val.assign rfl) ?_)
   refine TL.nil ?_
   refine TQ.then_ ?_
   refine TC.ret ?_
   obtain rfl := Option.some.inj h
   exact TQ.fin (.inl rfl) rfl Tryd.results76 (.tmp rfl .nil) rfl (FRel.mk (Ls := []) [] 0 (Gd.le.refl _) rfl rfl rfl ⟨rfl, rfl, rfl⟩)
  ·
   refine TC.block ?_
   intro a W hF hO
   have hS : ∃ (x168 : Int), slices_Equal_int_int.l0 a0 a1 (a0.length + 1) x168 = some o247 ∧ Fr 26 a [(0, .slice A1 a0.length c2), (1, .slice A5 a1.length c6), (12, .int .i64 (a0.length : Int)), (13, .int .i64 x168)] ∧ Own G (L) W := by
    exact ⟨0, ho247, hF.sub ⟨rfl, rfl, rfl, rfl, trivial⟩, hO.selT (Ls := []) [] 0 rfl rfl rfl⟩
   clear hF hO ho247
   refine TC.loop (fun n248 a W => ∃ (x168 : Int), slices_Equal_int_int.l0 a0 a1 n248 x168 = some o247 ∧ Fr 26 a [(0, .slice A1 a0.length c2), (1, .slice A5 a1.length c6), (12, .int .i64 (a0.length : Int)), (13, .int .i64 x168)] ∧ Own G (L) W) ?_ ?_ hS
   ·
    rintro a W ⟨x168, h, hF, hO⟩
    exact none_no h
   ·
    clear hS
    rintro n248 a W ⟨x168, h, hF, hO⟩
    rw [slices_Equal_int_int.l0] at h
    refine TC.use ?_ hF hO
    clear hF hO
    refine TC.seq ?_
    refine TC.region ?_
    refine TL.cons (TO.val rfl rfl rfl (Val.cmp rfl rfl run_lss) ?_)
    refine TL.nil ?_
    refine TQ.then_ ?_
    refine TC.seq ?_
    refine TC.cond_p rfl h (fun hc328 h => ?_) (fun hc328 h => ?_)
    ·
     refine TC.skip ?_
     refine TQ.then_ ?_
     refine TC.seq ?_
     refine TC.block ?_
     refine TC.seq ?_
     refine TC.region ?_
     refine TL.cons (TO.val rfl rfl rfl (Val.move rfl) ?_)
     refine TL.cons (TO.val rfl rfl rfl (Val.assign rfl) ?_)
     refine TL.nil ?_
     refine TQ.then_ ?_
     refine TC.seq ?_
     refine TC.regionAny [] [0, 1, 2, 3, 4, 5, 6, 7, 8] mixed (by kernel_rfl) ?_
     refine TA.take 0 rfl (by kernel_rfl) rfl (PQ.then_ (PQ.inB (PQ.then_ (PQ.then_ (PQ.inB (PQ.then_ (PQ.then_ PQ.body))))))) rfl (Val.move rfl) (fun W hO => hO) ?_
     refine TA.take 1 rfl (by kernel_rfl) rfl (PQ.then_ (PQ.inB (PQ.then_ (PQ.then_ (PQ.inB (PQ.then_ (PQ.then_ PQ.body))))))) rfl (Val.move rfl) (fun W hO => hO) ?_
     obtain ⟨y385, hx386, h⟩ := bind_no h
     obtain ⟨ad387, cs393, hA388, hi389, hj390, hcl391, hK392⟩ := Rd.at hr3 hx386
     obtain rfl := RdK.int hK392
     refine TA.take 2 rfl (by kernel_rfl) rfl (PQ.then_ (PQ.inB (PQ.then_ (PQ.then_ (PQ.inB (PQ.then_ (PQ.then_ PQ.body))))))) rfl (Val.indexAddr Tryd.underlying38 fsz3 rfl hA388 rfl hi389 hj390) (fun W hO => hO) ?_
     refine TA.take 3 rfl (by kernel_rfl) rfl (PQ.then_ (PQ.inB (PQ.then_ (PQ.then_ (PQ.inB (PQ.then_ (PQ.then_ PQ.body))))))) rfl (Val.loadS agg3 rfl (hcl391 0 _ rfl)) (fun W hO => hO) ?_
     refine TA.take 4 rfl (by kernel_rfl) rfl (PQ.then_ (PQ.inB (PQ.then_ (PQ.then_ (PQ.inB (PQ.then_ (PQ.then_ PQ.body))))))) rfl (Val.move rfl) (fun W hO => hO) ?_
     refine TA.take 5 rfl (by kernel_rfl) rfl (PQ.then_ (PQ.inB (PQ.then_ (PQ.then_ (PQ.inB (PQ.then_ (PQ.then_ PQ.body))))))) rfl (Val.move rfl) (fun W hO => hO) ?_
     obtain ⟨y394, hx395, h⟩ := bind_no h
     obtain ⟨ad396, cs402, hA397, hi398, hj399, hcl400, hK401⟩ := Rd.at hr7 hx395
     obtain rfl := RdK.int hK401
     refine TA.take 6 rfl (by kernel_rfl) rfl (PQ.then_ (PQ.inB (PQ.then_ (PQ.then_ (PQ.inB (PQ.then_ (PQ.then_ PQ.body))))))) rfl (Val.indexAddr Tryd.underlying38 fsz3 rfl hA397 rfl hi398 hj399) (fun W hO => hO) ?_
     refine TA.take 7 rfl (by kernel_rfl) rfl (PQ.then_ (PQ.inB (PQ.then_ (PQ.then_ (PQ.inB (PQ.then_ (PQ.then_ PQ.body))))))) rfl (Val.loadS agg3 rfl (hcl400 0 _ rfl)) (fun W hO => hO) ?_
     refine TA.take 8 rfl (by kernel_rfl) rfl (PQ.then_ (PQ.inB (PQ.then_ (PQ.then_ (PQ.inB (PQ.then_ (PQ.then_ PQ.body))))))) rfl (Val.cmp rfl rfl run_neq) (fun W hO => hO) ?_
     refine TA.done (by kernel_rfl) ?_
     refine TQ.then_ ?_
     refine TC.cond_b rfl h (fun hc404 h => ?_) (fun hc404 h => ?_)
     ·
      refine TC.seq ?_
      refine TC.region ?_
      refine TL.cons (TO.val rfl rfl rfl (Val.assign rfl) ?_)
      refine TL.nil ?_
      refine TQ.then_ ?_
      refine TC.ret ?_
      refine TQ.inBR ?_
      refine TQ.thenR ?_
      refine TQ.thenR ?_
      refine TQ.inBR ?_
      refine TQ.thenR ?_
      refine TQ.thenR ?_
      obtain rfl := Option.some.inj h
      have h := ko247
      obtain rfl := Option.some.inj h
      exact TQ.fin (.inl rfl) rfl Tryd.results76 (.tmp rfl .nil) rfl (FRel.mk (Ls := []) [] 0 (Gd.le.refl _) rfl rfl rfl ⟨rfl, rfl, rfl⟩)
     ·
      refine TC.skip ?_
      refine TQ.inB ?_
      refine TQ.then_ ?_
      refine TC.region ?_
      refine TL.cons (TO.val rfl rfl rfl (Val.cmp rfl rfl run_add) ?_)
      refine TL.cons (TO.val rfl rfl rfl (Val.move rfl) ?_)
      refine TL.nil ?_
      exact fun a W hF hO => ⟨IntKind.i64.wrap (x168 + 1), h, hF.sub ⟨rfl, rfl, rfl, rfl, trivial⟩, hO.selT (Ls := []) [] 0 rfl rfl rfl⟩
    ·
     refine TC.exit ?_
     refine TQ.thenX ?_
     refine TQ.thenX ?_
     refine TQ.inBX ?_
     exact fun a W hF hO => ⟨Option.some.inj h, hF.sub trivial, hO.selT (Ls := []) [] 0 rfl rfl rfl⟩
end Go.Proofs.YtmacdhkfgoahcaaDoor.Sy
set_option linter.unusedVariables false
set_option linter.unusedSimpArgs false
set_option maxRecDepth 100000
set_option maxHeartbeats 4000000
namespace Go.Proofs.YtmacdhkfgoahcaaDoor.Sy
open Go Go.RowKit Go.Proofs.YtmacdhkfgoahcaaDoorW.PrintWords 
def code_sameOp.f (a0 : S40) (a1 : S40) : Option Bool := jn (γ := Bool) ((if ([a0.f0, a0.f1, a0.f2, a0.f3, a0.f4] == [a1.f0, a1.f1, a1.f2, a1.f3, a1.f4]) = true then (slices_Equal_int_int.f a0.f5 a1.f5).bind fun (y27 : Bool) => some y27 else some false)) (fun (j19 : (Option Bool)) => j19)
def code_sameOp.post (G : Gd)  (r : Bool) (v : Value) (G' : Gd) (Lr : List Ch) : Prop := G = G' ∧ v = .bool r ∧ Lr = []
theorem code_sameOp.calls {G : Gd} {r : Bool} {a0 : S40} {a1 : S40} {A1 : Option Addr} {c2 : Nat} {A5 : Option Addr} {c6 : Nat} (hr3 : Rd G (Kd.int .i64) A1 a0.f5) (hl4 : a0.f5.length ≤ c2) (hr7 : Rd G (Kd.int .i64) A5 a1.f5) (hl8 : a1.f5.length ≤ c6) (h : code_sameOp.f a0 a1 = some r) : Fn Tryd.prog 43 G [] [.agg #[.int .i64 a0.f0, .int .i64 a0.f1, .int .i64 a0.f2, .int .i64 a0.f3, .int .i64 a0.f4, .slice A1 a0.f5.length c2], .agg #[.int .i64 a1.f0, .int .i64 a1.f1, .int .i64 a1.f2, .int .i64 a1.f3, .int .i64 a1.f4, .slice A5 a1.f5.length c6]] (code_sameOp.post G  r) := by
 refine Fn.intro (e := [(0, .agg #[.int .i64 a0.f0, .int .i64 a0.f1, .int .i64 a0.f2, .int .i64 a0.f3, .int .i64 a0.f4, .slice A1 a0.f5.length c2]), (1, .agg #[.int .i64 a1.f0, .int .i64 a1.f1, .int .i64 a1.f2, .int .i64 a1.f3, .int .i64 a1.f4, .slice A5 a1.f5.length c6])]) 39 Tryd.func43 rfl Tryd.ntmps43 rfl rfl (Nat.le_of_ble_eq_true rfl) (fun L => ?_)
 unfold code_sameOp.f at h
 refine TC.seq ?_
 refine TC.region ?_
 refine TL.cons (TL.box (cs := [.int .i64 a0.f0, .int .i64 a0.f1, .int .i64 a0.f2, .int .i64 a0.f3, .int .i64 a0.f4, .slice A1 a0.f5.length c2]) rfl rfl rfl rfl (fun b9 => ?_))
 refine TL.cons (TL.box (cs := [.int .i64 a1.f0, .int .i64 a1.f1, .int .i64 a1.f2, .int .i64 a1.f3, .int .i64 a1.f4, .slice A5 a1.f5.length c6]) rfl rfl rfl rfl (fun b10 => ?_))
 refine TL.cons (TO.val rfl rfl rfl (Val.assign rfl) ?_)
 refine TL.nil ?_
 refine TQ.then_ ?_
 refine TC.seq ?_
 obtain ⟨j19, hj19, h⟩ := jn_no h
 refine TC.tail (fun a W => ∃ (b17 : Nat) (b18 : Nat), j19 = some r ∧ Fr 39 a [(2, .pointer (some ⟨b9, 0, none⟩)), (3, .pointer (some ⟨b10, 0, none⟩)), (5, .pointer (some ⟨b17, 0, none⟩)), (6, .pointer (some ⟨b18, 0, none⟩))] ∧ Own G (Blk b10 [.int .i64 a1.f0, .int .i64 a1.f1, .int .i64 a1.f2, .int .i64 a1.f3, .int .i64 a1.f4, .slice A5 a1.f5.length c6] 40 :: Blk b17 [.int .i64 a0.f0, .int .i64 a0.f1, .int .i64 a0.f2, .int .i64 a0.f3, .int .i64 a0.f4] 97 :: Blk b18 [.int .i64 a1.f0, .int .i64 a1.f1, .int .i64 a1.f2, .int .i64 a1.f3, .int .i64 a1.f4] 97 :: Blk b9 [.int .i64 a0.f0, .int .i64 a0.f1, .int .i64 a0.f2, .int .i64 a0.f3, .int .i64 a0.f4, .slice A1 a0.f5.length c2] 40 :: L) W) ?_ ?_
 ·
  rintro a W ⟨b17, b18, h, hF, hO⟩
  rw [hj19] at h
  refine TQ.use ?_ hF hO
  clear hF hO
  refine TQ.then_ ?_
  refine TC.seq ?_
  refine TC.region ?_
  refine TL.cons (TO.val rfl rfl rfl (Val.loadsB 1 (cs := [.int .i64 a0.f0, .int .i64 a0.f1, .int .i64 a0.f2, .int .i64 a0.f3, .int .i64 a0.f4]) agg97 fsz97 rfl rfl rfl rfl) ?_)
  refine TL.cons (TO.val rfl rfl rfl (Val.loadsB 2 (cs := [.int .i64 a1.f0, .int .i64 a1.f1, .int .i64 a1.f2, .int .i64 a1.f3, .int .i64 a1.f4]) agg97 fsz97 rfl rfl rfl rfl) ?_)
  refine TL.cons (TO.val rfl rfl rfl (Val.eqA eqg97 rfl rfl (fun W => eqArr (d := 9998) Tryd.underlying97 agg3 Tryd.underlying3 fsz3 [a0.f0, a0.f1, a0.f2, a0.f3, a0.f4] [a1.f0, a1.f1, a1.f2, a1.f3, a1.f4] rfl rfl)) ?_)
  refine TL.cons (TO.val rfl rfl rfl (Val.move rfl) ?_)
  refine TK.split (p := ([a0.f0, a0.f1, a0.f2, a0.f3, a0.f4] == [a1.f0, a1.f1, a1.f2, a1.f3, a1.f4]) = true) h (fun hg25 h => ?_) (fun hg25 h => ?_)
  ·
   have hk26 : ([a0.f0, a0.f1, a0.f2, a0.f3, a0.f4] == [a1.f0, a1.f1, a1.f2, a1.f3, a1.f4]) = true := hg25
   refine TL.cons (TO.val (Wt.yes rfl rfl rfl hk26) rfl rfl (Val.fieldAddrB Tryd.underlying40 rfl fsz38 rfl rfl rfl) ?_)
   refine TL.cons (TO.val (Wt.yes rfl rfl rfl hk26) rfl rfl (Val.loadB 3 agg38 rfl rfl rfl) ?_)
   refine TL.cons (TO.val (Wt.yes rfl rfl rfl hk26) rfl rfl (Val.fieldAddrB Tryd.underlying40 rfl fsz38 rfl rfl rfl) ?_)
   refine TL.cons (TO.val (Wt.yes rfl rfl rfl hk26) rfl rfl (Val.loadB 0 agg38 rfl rfl rfl) ?_)
   obtain ⟨y27, hy28, h⟩ := bind_no h
   refine TL.cons (TL.callV (Lin := []) (args := [.slice A1 a0.f5.length c2, .slice A5 a1.f5.length c6]) (Wt.yes rfl rfl rfl hk26) rfl rfl hbd76 rfl rfl (slices_Equal_int_int.calls (a0 := a0.f5) (a1 := a1.f5) hr3 hl4 hr7 hl8 hy28) rfl ?_)
   rintro _ _ _ _ ⟨rfl, rfl, rfl⟩
   refine TL.cons (TO.val rfl rfl rfl (Val.pickY rfl hk26 rfl) ?_)
   refine TL.cons (TO.val rfl rfl rfl (Val.assign rfl) ?_)
   refine TL.nil ?_
   refine TQ.then_ ?_
   refine TC.ret ?_
   obtain rfl := Option.some.inj h
   exact TQ.fin (.inl rfl) rfl Tryd.results43 (.tmp rfl .nil) rfl (FRel.mk (Ls := []) [] 4 (Gd.le.refl _) rfl rfl rfl ⟨rfl, rfl, rfl⟩)
  ·
   have hk29 : ([a0.f0, a0.f1, a0.f2, a0.f3, a0.f4] == [a1.f0, a1.f1, a1.f2, a1.f3, a1.f4]) = false := (by simpa using hg25)
   refine TL.cons (TL.not (Wt.no rfl rfl rfl hk29) rfl ?_)
   refine TL.cons (TL.not (Wt.no rfl rfl rfl hk29) rfl ?_)
   refine TL.cons (TL.not (Wt.no rfl rfl rfl hk29) rfl ?_)
   refine TL.cons (TL.not (Wt.no rfl rfl rfl hk29) rfl ?_)
   refine TL.cons (TL.not (Wt.no rfl rfl rfl hk29) rfl ?_)
   refine TL.cons (TO.val rfl rfl rfl (Val.pickN rfl hk29 rfl) ?_)
   refine TL.cons (TO.val rfl rfl rfl (Val.assign rfl) ?_)
   refine TL.nil ?_
   refine TQ.then_ ?_
   refine TC.ret ?_
   obtain rfl := Option.some.inj h
   exact TQ.fin (.inl rfl) rfl Tryd.results43 (.tmp rfl .nil) rfl (FRel.mk (Ls := []) [] 4 (Gd.le.refl _) rfl rfl rfl ⟨rfl, rfl, rfl⟩)
 ·
  refine TC.regionAny [] [0, 1, 2, 3, 4, 5, 6, 7, 8, 9, 10, 11, 12, 13, 14, 15, 16, 17, 18, 19, 20, 21] mixed (by kernel_rfl) ?_
  refine TA.take 0 rfl (by kernel_rfl) rfl (PQ.then_ (PQ.then_ PQ.body)) rfl (Val.fieldAddrB Tryd.underlying40 rfl fsz3 rfl rfl rfl) (fun W hO => hO) ?_
  refine TA.take 1 rfl (by kernel_rfl) rfl (PQ.then_ (PQ.then_ PQ.body)) rfl (Val.loadB 1 agg3 rfl rfl rfl) (fun W hO => hO) ?_
  refine TA.take 2 rfl (by kernel_rfl) rfl (PQ.then_ (PQ.then_ PQ.body)) rfl (Val.fieldAddrB Tryd.underlying40 rfl fsz3 rfl rfl rfl) (fun W hO => hO) ?_
  refine TA.take 3 rfl (by kernel_rfl) rfl (PQ.then_ (PQ.then_ PQ.body)) rfl (Val.loadB 1 agg3 rfl rfl rfl) (fun W hO => hO) ?_
  refine TA.take 4 rfl (by kernel_rfl) rfl (PQ.then_ (PQ.then_ PQ.body)) rfl (Val.fieldAddrB Tryd.underlying40 rfl fsz3 rfl rfl rfl) (fun W hO => hO) ?_
  refine TA.take 5 rfl (by kernel_rfl) rfl (PQ.then_ (PQ.then_ PQ.body)) rfl (Val.loadB 1 agg3 rfl rfl rfl) (fun W hO => hO) ?_
  refine TA.take 6 rfl (by kernel_rfl) rfl (PQ.then_ (PQ.then_ PQ.body)) rfl (Val.fieldAddrB Tryd.underlying40 rfl fsz3 rfl rfl rfl) (fun W hO => hO) ?_
  refine TA.take 7 rfl (by kernel_rfl) rfl (PQ.then_ (PQ.then_ PQ.body)) rfl (Val.loadB 1 agg3 rfl rfl rfl) (fun W hO => hO) ?_
  refine TA.take 8 rfl (by kernel_rfl) rfl (PQ.then_ (PQ.then_ PQ.body)) rfl (Val.fieldAddrB Tryd.underlying40 rfl fsz3 rfl rfl rfl) (fun W hO => hO) ?_
  refine TA.take 9 rfl (by kernel_rfl) rfl (PQ.then_ (PQ.then_ PQ.body)) rfl (Val.loadB 1 agg3 rfl rfl rfl) (fun W hO => hO) ?_
  refine TA.take 10 rfl (by kernel_rfl) rfl (PQ.then_ (PQ.then_ PQ.body)) rfl (Val.buildA (cs := [.int .i64 a0.f0, .int .i64 a0.f1, .int .i64 a0.f2, .int .i64 a0.f3, .int .i64 a0.f4]) (is := [0, 1, 2, 3, 4]) (xs := [.tmp 8, .tmp 10, .tmp 12, .tmp 14, .tmp 16]) Tryd.underlying97 zr97 fsz3 rfl rfl rfl rfl) (fun W hO => hO) ?_
  refine TA.take 11 rfl (by kernel_rfl) rfl (PQ.then_ (PQ.then_ PQ.body)) rfl (Val.fieldAddrB Tryd.underlying40 rfl fsz3 rfl rfl rfl) (fun W hO => hO) ?_
  refine TA.take 12 rfl (by kernel_rfl) rfl (PQ.then_ (PQ.then_ PQ.body)) rfl (Val.loadB 0 agg3 rfl rfl rfl) (fun W hO => hO) ?_
  refine TA.take 13 rfl (by kernel_rfl) rfl (PQ.then_ (PQ.then_ PQ.body)) rfl (Val.fieldAddrB Tryd.underlying40 rfl fsz3 rfl rfl rfl) (fun W hO => hO) ?_
  refine TA.take 14 rfl (by kernel_rfl) rfl (PQ.then_ (PQ.then_ PQ.body)) rfl (Val.loadB 0 agg3 rfl rfl rfl) (fun W hO => hO) ?_
  refine TA.take 15 rfl (by kernel_rfl) rfl (PQ.then_ (PQ.then_ PQ.body)) rfl (Val.fieldAddrB Tryd.underlying40 rfl fsz3 rfl rfl rfl) (fun W hO => hO) ?_
  refine TA.take 16 rfl (by kernel_rfl) rfl (PQ.then_ (PQ.then_ PQ.body)) rfl (Val.loadB 0 agg3 rfl rfl rfl) (fun W hO => hO) ?_
  refine TA.take 17 rfl (by kernel_rfl) rfl (PQ.then_ (PQ.then_ PQ.body)) rfl (Val.fieldAddrB Tryd.underlying40 rfl fsz3 rfl rfl rfl) (fun W hO => hO) ?_
  refine TA.take 18 rfl (by kernel_rfl) rfl (PQ.then_ (PQ.then_ PQ.body)) rfl (Val.loadB 0 agg3 rfl rfl rfl) (fun W hO => hO) ?_
  refine TA.take 19 rfl (by kernel_rfl) rfl (PQ.then_ (PQ.then_ PQ.body)) rfl (Val.fieldAddrB Tryd.underlying40 rfl fsz3 rfl rfl rfl) (fun W hO => hO) ?_
  refine TA.take 20 rfl (by kernel_rfl) rfl (PQ.then_ (PQ.then_ PQ.body)) rfl (Val.loadB 0 agg3 rfl rfl rfl) (fun W hO => hO) ?_
  refine TA.take 21 rfl (by kernel_rfl) rfl (PQ.then_ (PQ.then_ PQ.body)) rfl (Val.buildA (cs := [.int .i64 a1.f0, .int .i64 a1.f1, .int .i64 a1.f2, .int .i64 a1.f3, .int .i64 a1.f4]) (is := [0, 1, 2, 3, 4]) (xs := [.tmp 19, .tmp 21, .tmp 23, .tmp 25, .tmp 27]) Tryd.underlying97 zr97 fsz3 rfl rfl rfl rfl) (fun W hO => hO) ?_
  refine TA.effs 22 [23] (by kernel_rfl) ⟨⟨_, rfl, ?_⟩, ⟨_, rfl, ?_⟩, trivial⟩
  ·
   refine TL.alloc (cs := [.int .i64 0, .int .i64 0, .int .i64 0, .int .i64 0, .int .i64 0]) rfl rfl zr97 rfl (fun b32 => ?_)
   refine TA.next (fun W hO => hO.selT (Ls := [Blk b10 [.int .i64 a1.f0, .int .i64 a1.f1, .int .i64 a1.f2, .int .i64 a1.f3, .int .i64 a1.f4, .slice A5 a1.f5.length c6] 40, Blk b9 [.int .i64 a0.f0, .int .i64 a0.f1, .int .i64 a0.f2, .int .i64 a0.f3, .int .i64 a0.f4, .slice A1 a0.f5.length c2] 40]) [1, 2] 3 rfl rfl rfl) ?_
   refine TA.eff 23 rfl (by kernel_rfl) rfl (TL.alloc (cs := [.int .i64 0, .int .i64 0, .int .i64 0, .int .i64 0, .int .i64 0]) rfl rfl zr97 rfl (fun b33 => ?_))
   refine TA.next (fun W hO => hO.selT (Ls := [Blk b10 [.int .i64 a1.f0, .int .i64 a1.f1, .int .i64 a1.f2, .int .i64 a1.f3, .int .i64 a1.f4, .slice A5 a1.f5.length c6] 40, Blk b9 [.int .i64 a0.f0, .int .i64 a0.f1, .int .i64 a0.f2, .int .i64 a0.f3, .int .i64 a0.f4, .slice A1 a0.f5.length c2] 40]) [2, 3] 4 rfl rfl rfl) ?_
   refine TA.eff 24 rfl (by kernel_rfl) rfl (TL.store 1 (ds := [.int .i64 a0.f0, .int .i64 a0.f1, .int .i64 a0.f2, .int .i64 a0.f3, .int .i64 a0.f4]) (cs' := [.int .i64 a0.f0, .int .i64 a0.f1, .int .i64 a0.f2, .int .i64 a0.f3, .int .i64 a0.f4]) (L' := (Blk b33 [.int .i64 0, .int .i64 0, .int .i64 0, .int .i64 0, .int .i64 0] 97 :: Blk b32 [.int .i64 a0.f0, .int .i64 a0.f1, .int .i64 a0.f2, .int .i64 a0.f3, .int .i64 a0.f4] 97 :: Blk b10 [.int .i64 a1.f0, .int .i64 a1.f1, .int .i64 a1.f2, .int .i64 a1.f3, .int .i64 a1.f4, .slice A5 a1.f5.length c6] 40 :: Blk b9 [.int .i64 a0.f0, .int .i64 a0.f1, .int .i64 a0.f2, .int .i64 a0.f3, .int .i64 a0.f4, .slice A1 a0.f5.length c2] 40 :: L)) rfl fsz97 rfl rfl rfl rfl rfl (Nat.le_of_ble_eq_true rfl) rfl rfl ?_)
   refine TA.next (fun W hO => hO.selT (Ls := [Blk b10 [.int .i64 a1.f0, .int .i64 a1.f1, .int .i64 a1.f2, .int .i64 a1.f3, .int .i64 a1.f4, .slice A5 a1.f5.length c6] 40, Blk b9 [.int .i64 a0.f0, .int .i64 a0.f1, .int .i64 a0.f2, .int .i64 a0.f3, .int .i64 a0.f4, .slice A1 a0.f5.length c2] 40]) [2, 3] 4 rfl rfl rfl) ?_
   refine TA.eff 25 rfl (by kernel_rfl) rfl (TL.store 0 (ds := [.int .i64 a1.f0, .int .i64 a1.f1, .int .i64 a1.f2, .int .i64 a1.f3, .int .i64 a1.f4]) (cs' := [.int .i64 a1.f0, .int .i64 a1.f1, .int .i64 a1.f2, .int .i64 a1.f3, .int .i64 a1.f4]) (L' := (Blk b33 [.int .i64 a1.f0, .int .i64 a1.f1, .int .i64 a1.f2, .int .i64 a1.f3, .int .i64 a1.f4] 97 :: Blk b32 [.int .i64 a0.f0, .int .i64 a0.f1, .int .i64 a0.f2, .int .i64 a0.f3, .int .i64 a0.f4] 97 :: Blk b10 [.int .i64 a1.f0, .int .i64 a1.f1, .int .i64 a1.f2, .int .i64 a1.f3, .int .i64 a1.f4, .slice A5 a1.f5.length c6] 40 :: Blk b9 [.int .i64 a0.f0, .int .i64 a0.f1, .int .i64 a0.f2, .int .i64 a0.f3, .int .i64 a0.f4, .slice A1 a0.f5.length c2] 40 :: L)) rfl fsz97 rfl rfl rfl rfl rfl (Nat.le_of_ble_eq_true rfl) rfl rfl ?_)
   refine TA.next (fun W hO => hO.selT (Ls := [Blk b10 [.int .i64 a1.f0, .int .i64 a1.f1, .int .i64 a1.f2, .int .i64 a1.f3, .int .i64 a1.f4, .slice A5 a1.f5.length c6] 40, Blk b9 [.int .i64 a0.f0, .int .i64 a0.f1, .int .i64 a0.f2, .int .i64 a0.f3, .int .i64 a0.f4, .slice A1 a0.f5.length c2] 40]) [2, 3] 4 rfl rfl rfl) ?_
   refine TA.done (by kernel_rfl) ?_
   exact fun a W hF hO => ⟨b32, b33, h, hF.sub ⟨rfl, rfl, rfl, rfl, trivial⟩, hO.selT (Ls := [Blk b10 [.int .i64 a1.f0, .int .i64 a1.f1, .int .i64 a1.f2, .int .i64 a1.f3, .int .i64 a1.f4, .slice A5 a1.f5.length c6] 40, Blk b32 [.int .i64 a0.f0, .int .i64 a0.f1, .int .i64 a0.f2, .int .i64 a0.f3, .int .i64 a0.f4] 97, Blk b33 [.int .i64 a1.f0, .int .i64 a1.f1, .int .i64 a1.f2, .int .i64 a1.f3, .int .i64 a1.f4] 97, Blk b9 [.int .i64 a0.f0, .int .i64 a0.f1, .int .i64 a0.f2, .int .i64 a0.f3, .int .i64 a0.f4, .slice A1 a0.f5.length c2] 40]) [2, 1, 0, 3] 4 rfl rfl rfl⟩
  ·
   refine TL.alloc (cs := [.int .i64 0, .int .i64 0, .int .i64 0, .int .i64 0, .int .i64 0]) rfl rfl zr97 rfl (fun b34 => ?_)
   refine TA.next (fun W hO => hO.selT (Ls := [Blk b10 [.int .i64 a1.f0, .int .i64 a1.f1, .int .i64 a1.f2, .int .i64 a1.f3, .int .i64 a1.f4, .slice A5 a1.f5.length c6] 40, Blk b9 [.int .i64 a0.f0, .int .i64 a0.f1, .int .i64 a0.f2, .int .i64 a0.f3, .int .i64 a0.f4, .slice A1 a0.f5.length c2] 40]) [1, 2] 3 rfl rfl rfl) ?_
   refine TA.eff 22 rfl (by kernel_rfl) rfl (TL.alloc (cs := [.int .i64 0, .int .i64 0, .int .i64 0, .int .i64 0, .int .i64 0]) rfl rfl zr97 rfl (fun b35 => ?_))
   refine TA.next (fun W hO => hO.selT (Ls := [Blk b10 [.int .i64 a1.f0, .int .i64 a1.f1, .int .i64 a1.f2, .int .i64 a1.f3, .int .i64 a1.f4, .slice A5 a1.f5.length c6] 40, Blk b9 [.int .i64 a0.f0, .int .i64 a0.f1, .int .i64 a0.f2, .int .i64 a0.f3, .int .i64 a0.f4, .slice A1 a0.f5.length c2] 40]) [2, 3] 4 rfl rfl rfl) ?_
   refine TA.eff 24 rfl (by kernel_rfl) rfl (TL.store 0 (ds := [.int .i64 a0.f0, .int .i64 a0.f1, .int .i64 a0.f2, .int .i64 a0.f3, .int .i64 a0.f4]) (cs' := [.int .i64 a0.f0, .int .i64 a0.f1, .int .i64 a0.f2, .int .i64 a0.f3, .int .i64 a0.f4]) (L' := (Blk b35 [.int .i64 a0.f0, .int .i64 a0.f1, .int .i64 a0.f2, .int .i64 a0.f3, .int .i64 a0.f4] 97 :: Blk b34 [.int .i64 0, .int .i64 0, .int .i64 0, .int .i64 0, .int .i64 0] 97 :: Blk b10 [.int .i64 a1.f0, .int .i64 a1.f1, .int .i64 a1.f2, .int .i64 a1.f3, .int .i64 a1.f4, .slice A5 a1.f5.length c6] 40 :: Blk b9 [.int .i64 a0.f0, .int .i64 a0.f1, .int .i64 a0.f2, .int .i64 a0.f3, .int .i64 a0.f4, .slice A1 a0.f5.length c2] 40 :: L)) rfl fsz97 rfl rfl rfl rfl rfl (Nat.le_of_ble_eq_true rfl) rfl rfl ?_)
   refine TA.next (fun W hO => hO.selT (Ls := [Blk b10 [.int .i64 a1.f0, .int .i64 a1.f1, .int .i64 a1.f2, .int .i64 a1.f3, .int .i64 a1.f4, .slice A5 a1.f5.length c6] 40, Blk b9 [.int .i64 a0.f0, .int .i64 a0.f1, .int .i64 a0.f2, .int .i64 a0.f3, .int .i64 a0.f4, .slice A1 a0.f5.length c2] 40]) [2, 3] 4 rfl rfl rfl) ?_
   refine TA.eff 25 rfl (by kernel_rfl) rfl (TL.store 1 (ds := [.int .i64 a1.f0, .int .i64 a1.f1, .int .i64 a1.f2, .int .i64 a1.f3, .int .i64 a1.f4]) (cs' := [.int .i64 a1.f0, .int .i64 a1.f1, .int .i64 a1.f2, .int .i64 a1.f3, .int .i64 a1.f4]) (L' := (Blk b35 [.int .i64 a0.f0, .int .i64 a0.f1, .int .i64 a0.f2, .int .i64 a0.f3, .int .i64 a0.f4] 97 :: Blk b34 [.int .i64 a1.f0, .int .i64 a1.f1, .int .i64 a1.f2, .int .i64 a1.f3, .int .i64 a1.f4] 97 :: Blk b10 [.int .i64 a1.f0, .int .i64 a1.f1, .int .i64 a1.f2, .int .i64 a1.f3, .int .i64 a1.f4, .slice A5 a1.f5.length c6] 40 :: Blk b9 [.int .i64 a0.f0, .int .i64 a0.f1, .int .i64 a0.f2, .int .i64 a0.f3, .int .i64 a0.f4, .slice A1 a0.f5.length c2] 40 :: L)) rfl fsz97 rfl rfl rfl rfl rfl (Nat.le_of_ble_eq_true rfl) rfl rfl ?_)
   refine TA.next (fun W hO => hO.selT (Ls := [Blk b10 [.int .i64 a1.f0, .int .i64 a1.f1, .int .i64 a1.f2, .int .i64 a1.f3, .int .i64 a1.f4, .slice A5 a1.f5.length c6] 40, Blk b9 [.int .i64 a0.f0, .int .i64 a0.f1, .int .i64 a0.f2, .int .i64 a0.f3, .int .i64 a0.f4, .slice A1 a0.f5.length c2] 40]) [2, 3] 4 rfl rfl rfl) ?_
   refine TA.done (by kernel_rfl) ?_
   exact fun a W hF hO => ⟨b35, b34, h, hF.sub ⟨rfl, rfl, rfl, rfl, trivial⟩, hO.selT (Ls := [Blk b10 [.int .i64 a1.f0, .int .i64 a1.f1, .int .i64 a1.f2, .int .i64 a1.f3, .int .i64 a1.f4, .slice A5 a1.f5.length c6] 40, Blk b35 [.int .i64 a0.f0, .int .i64 a0.f1, .int .i64 a0.f2, .int .i64 a0.f3, .int .i64 a0.f4] 97, Blk b34 [.int .i64 a1.f0, .int .i64 a1.f1, .int .i64 a1.f2, .int .i64 a1.f3, .int .i64 a1.f4] 97, Blk b9 [.int .i64 a0.f0, .int .i64 a0.f1, .int .i64 a0.f2, .int .i64 a0.f3, .int .i64 a0.f4, .slice A1 a0.f5.length c2] 40]) [2, 0, 1, 3] 4 rfl rfl rfl⟩
end Go.Proofs.YtmacdhkfgoahcaaDoor.Sy
