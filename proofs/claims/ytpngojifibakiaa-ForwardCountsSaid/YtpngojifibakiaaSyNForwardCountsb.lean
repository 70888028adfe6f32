/- Texts of this work, joined: SyX, SyS, SyT, SyKU, SyF13, SyF40, SyF41, SyU, SyKT, SyO, SyOp, SyF5, SyF14, SyF27, SyF17, SyF29, SyF30, SyF37, SyF31, SyF33, SyF19, SyF6, TrA, TrB, SyF8, SyF22, SyF34, SyF35, SyF36, SyF23. -/
import Derived.Maps.OwnSet
import Derived.Maps.Ext
import Derived.Lib.SlMapFilter
import Derived.Maps.RangeWalk
import Derived.Test.YtpngojifibakiaaProg
import Derived.DeepKeys5
import Derived.MapKept
import Derived.Shelf.SlLaysDf
import Derived.WalkKit
import Derived.Laws.IdiomRangeMap
import Derived.Deep.LoopGhost
import Derived.Shelf.SlMaps.DeleteFunc
import Derived.Deep.Slices
import Derived.Carry
import Derived.SizedLaws
import Derived.Test.YtpngojifibakiaaWsa
import Derived.Test.YtpngojifibakiaaSyNForwardCountsa
set_option linter.unusedVariables false
set_option linter.unusedSimpArgs false
namespace Go.Proofs.Ytpngojifibakiaa.Sy
open Go Go.RowKit Go.Proofs.YtpngojifibakiaaW.PrintWords
theorem uniq_key {H : Type} {es : List (Lit × DataW H)} (h : es.Pairwise (fun p q => p.1 ≠ q.1)) : ∀ {x y}, x ∈ es → y ∈ es → x.1 = y.1 → x = y := by
  induction es with
  | nil => intro x y hx; cases hx
  | cons z r ih =>
    rw [List.pairwise_cons] at h
    intro x y hx hy he
    rcases List.mem_cons.1 hx with h1 | h1 <;> rcases List.mem_cons.1 hy with h2 | h2
    · rw [h1, h2]
    · exact absurd (h1 ▸ he) (h.1 y h2)
    · exact absurd (h2 ▸ he.symm) (h.1 x h1)
    · exact ih h.2 h1 h2 he
theorem same_eq {a b : Lit} (h : a.sameKey b = true) : a = b := Classical.byContradiction fun hn => by rw [Maps.sameKey_ne hn] at h; cases h
theorem at_find {es : List (Lit × DataW Unit)} {k : Lit} {z : DataW Unit} : (DataW.map es).atKey k z = match es.find? (fun p => p.1.sameKey k) with | some p => p.2 | none => z := by
  unfold DataW.atKey
  cases h : es.find? (fun p => p.1.sameKey k) <;> simp [h]
end Go.Proofs.Ytpngojifibakiaa.Sy
set_option linter.unusedVariables false
set_option linter.unusedSimpArgs false
namespace Go.Proofs.Ytpngojifibakiaa.Sy
open Go Go.RowKit Go.Proofs.YtpngojifibakiaaW.PrintWords
/-- A map's state: how many entries it has at most; what is at a pair. -/
abbrev MqS := Nat × (Int × Int → Option Int)
abbrev wf2 (a : Int × Int) : Prop := wfi a.1 ∧ wfi a.2
def kq (a : Int × Int) : Lit := .string (keyBytes [.int .i64 a.1, .int .i64 a.2])
abbrev vq (a : Int × Int) : Value := .agg #[.int .i64 a.1, .int .i64 a.2]
/-- The key's type: a struct of two ints. -/
structure Kq (P : Program) (k : TypeId) : Prop where
  law : Maps.Keyed P k
  key : ∀ {a : Int × Int}, wf2 a → keyOf P k (vq a) = some (kq a)
  inv : ∀ {v : Value} {l : Lit}, keyOf P k v = some l → ∃ a : Int × Int, wf2 a ∧ v = vq a ∧ l = kq a
theorem kq_key (a : Int × Int) : WideAt.IsKeyLit (kq a) := by simp [kq, WideAt.IsKeyLit]
theorem kq_ne {P : Program} {k : TypeId} (K : Kq P k) {a b : Int × Int} (ha : wf2 a) (hb : wf2 b) (h : ¬ a = b) : kq a ≠ kq b := fun e => by
  have h1 := K.key ha
  have h2 := K.key hb
  rw [← e] at h2
  have := K.law.inj h1 h2
  simp only [vq, Value.agg.injEq] at this
  have e0 := congrArg Array.toList this
  simp at e0
  exact h (Prod.ext e0.1 e0.2)
/-- A datum says what a function does. -/
def Agq (D : DataW Unit) (f : Int × Int → Option Int) : Prop :=
  (∀ a, wf2 a → f a = none → Maps.has D (kq a) = false) ∧ (∀ a v, wf2 a → f a = some v → Maps.has D (kq a) = true ∧ wfi v ∧ ∀ z, D.atKey (kq a) z = i64d v)
theorem agq_nil : Agq (.map []) (fun _ => none) := ⟨fun a _ _ => rfl, fun a v _ h => by cases h⟩
def qput (x : MqS) (a : Int × Int) (v : Int) : MqS := (x.1 + 1, fun j => if j = a then some v else x.2 j)
def qnil : MqS := (0, fun _ => none)
def qclr (x : MqS) : MqS := (x.1, fun _ => none)
def qget (x : MqS) (a : Int × Int) : Int := (x.2 a).getD 0
def qhas (x : MqS) (a : Int × Int) : Bool := (x.2 a).isSome
def qdelf (x : MqS) (p : Int × Int → Int → Bool) : MqS := (x.1, fun j => match x.2 j with | some v => if p j v then none else some v | none => none)
theorem agq_put {P : Program} {k : TypeId} (K : Kq P k) {D : DataW Unit} {x : MqS} (hD : Maps.IsMap D) (h : Agq D x.2) {a : Int × Int} {v : Int} (ha : wf2 a) (hv : wfi v) : Agq (D.put (kq a) (i64d v)) (qput x a v).2 := by
  refine ⟨fun b hb hf => ?_, fun b w hb hf => ?_⟩
  · by_cases he : b = a
    · simp [qput, he] at hf
    · simp only [qput, he, if_false] at hf
      rw [Maps.has_put_other (kq_ne K hb ha he)]; exact h.1 b hb hf
  · by_cases he : b = a
    · subst he
      simp only [qput, if_true, Option.some.injEq] at hf
      subst hf
      exact ⟨Maps.has_put_same hD (kq_key b) _, hv, fun z => Maps.atKey_put_same hD (kq_key b) _ z⟩
    · simp only [qput, he, if_false] at hf
      obtain ⟨h1, h2, h3⟩ := h.2 b w hb hf
      exact ⟨by rw [Maps.has_put_other (kq_ne K hb ha he)]; exact h1, h2, fun z => by rw [Maps.atKey_put_other (kq_ne K hb ha he)]; exact h3 z⟩
/-- A map of one's own. -/
def Mq (P : Program) (k e b : Nat) (x : MqS) : Ch where
  holds B W F := F b ∧ B ≤ b ∧ ∃ D : DataW Unit, W.ownsMap P k (plainElem P e) b x.1 D ∧ Maps.IsMap D ∧ Agq D x.2
  move hm h := by
    obtain ⟨h1, h2, D, ⟨es, clock, a, c⟩, h3⟩ := h
    exact ⟨h1, h2, D, ⟨es, clock, (hm b h1 (Array.getElem?_eq_some_iff.1 a).1).trans a, c⟩, h3⟩
  wide h k := ⟨h b k.1, k.2⟩
  bound h := ⟨⟨h.1, h.2.1, by obtain ⟨_, _, D, h3, _⟩ := h; exact h3.lt⟩, h.2⟩
section
variable {P : Program} {r : Option Nat} {ops : Array Oper} {Q Q' : Exit → Act → World → Prop} {N : Nd} {e : Env} {G : Gd} {L L' : List Ch} {K : Act → World → Prop} {c : Code}
variable {d : Nat} {ty : TypeId} {pos : String} {af : Array Edge} {g : Option (Nat × Bool)} {x y z : Operand}
theorem Own.mq {i k el b : Nat} {m : MqS} {W : World} (h : Own G L W) (hi : L[i]? = some (Mq P k el b m)) : ∃ D : DataW Unit, W.ownsMap P k (plainElem P el) b m.1 D ∧ Maps.IsMap D ∧ Agq D m.2 := by
  obtain ⟨fp, a, _⟩ := h.mem
  exact (a i _ hi).2.2
/-- A new map. -/
theorem TL.makeMapQ {T k el : Nat} (hw : Wt ops e ⟨some d, .makeMap T none, ty, pos, af, g⟩ = some true) (hd : Nat.blt d N.n = true)
    (kk : ∀ b, TK K N ((d, .map (some b)) :: e) G (Mq P k el b qnil :: L)) : TO P r ops Q K N ⟨some d, .makeMap T none, ty, pos, af, g⟩ e G L := fun a W hF hO => by
  refine step_value (v := .map (some W.heap.size)) (W' := W.alloc (.map #[] 0)) (Wt.of hw hF) (by simp) ?_ (kk W.heap.size _ _ (hF.put hd _) (hO.add ((Below.refl _ W).alloc (Nat.le_refl _) _) ⟨Nat.le_refl _, hO.B, .map [], World.ownsMap_made W P k _, Maps.isMap_empty, agq_nil⟩))
  simp [execOp, run_makeMap]
/-- What is at a key, and whether. -/
theorem Val.lookupOkQ (i : Nat) {T k el b : Nat} {m : MqS} {a : Int × Int} (ht : P.underlying T = some (.map k el)) (hk : Kq P k) (he : P.underlying el = some (.int .i64)) (hz : (P.info? el).bind (·.zero) = some (.int .i64 0)) (hx : ev e x = some (.map (some b))) (hy : ev e y = some (vq a)) (hi : L[i]? = some (Mq P k el b m)) (ha : wf2 a) :
    Val P N e G L ⟨some d, .lookup T x y true, ty, pos, af, g⟩ (.tuple #[.int .i64 (qget m a), .bool (qhas m a)]) := fun A W hF hO => by
  obtain ⟨D, h1, h2, h3⟩ := hO.mq hi
  obtain ⟨ii, hii, hzz⟩ := Option.bind_eq_some_iff.1 hz
  have hz' : (zeroValue el).run P W = .ok (.int .i64 0) W := by simp [zeroValue, typeInfo, hii, hzz]
  obtain ⟨v, ps, hr, hv⟩ := h1.look_ok hk.law ht hz' (plainElem_int he (by decide)) (hk.key ha)
  obtain ⟨c, rfl, hc, _⟩ := plainElem_int_inv he hv
  have hat : D.atKey (kq a) (i64d 0) = i64d c := (Prod.mk.inj hc).1
  have key : c = qget m a ∧ Maps.has D (kq a) = qhas m a := by
    unfold qget qhas
    cases hm : m.2 a with
    | none =>
      have hn := h3.1 a ha hm
      rw [Maps.atKey_of_not_has hn] at hat
      exact ⟨by simp only [i64d] at hat; injection hat with e1; injection e1 with e2 e3; exact e3.symm, hn⟩
    | some v =>
      obtain ⟨q1, q2, q3⟩ := h3.2 a v ha hm
      rw [q3] at hat
      exact ⟨by simp only [i64d] at hat; injection hat with e1; injection e1 with e2 e3; exact e3.symm, q1⟩
  have hr' : (Instr.lookup T (.map (some b)) (vq a) true).run P W = .ok (.tuple #[.int .i64 c, .bool (Maps.has D (kq a))]) W := hr
  simp [execOp, hF.ev hx, hF.ev hy, hr', key.1, key.2]
theorem mq_turned {k el b i : Nat} {m m' : MqS} {W W' : World} {D' : DataW Unit} (hO : Own G L W) (hi : L[i]? = some (Mq P k el b m)) (hL : L.set i (Mq P k el b m') = L') (ht : W.mapTurned W' b) (h1 : W'.ownsMap P k (plainElem P el) b m'.1 D') (h2 : Maps.IsMap D') (h3 : Agq D' m'.2) : Own G L' W' := by
  obtain ⟨es, clock, es', clock', hb, rfl⟩ := ht
  refine hO.step i hi hL rfl rfl rfl (by simp [ChangeMaps.setBlock]) (fun F hF hh => ⟨⟨.inl hh.1, hh.2.1, D', h1, h2, h3⟩, fun k hk hn => ?_⟩)
  exact ChangeMaps.heap_setBlock_other hb _ (fun e => hn (e ▸ hh.1))
/-- A store. -/
theorem TL.mapUpdateQ (i : Nat) {T k el b : Nat} {m : MqS} {a : Int × Int} {v : Int} (hw : Wt ops e ⟨none, .mapUpdate T x y z, ty, pos, af, g⟩ = some true) (ht : P.underlying T = some (.map k el)) (hk : Kq P k) (he : P.underlying el = some (.int .i64)) (hx : ev e x = some (.map (some b))) (hy : ev e y = some (vq a)) (hz : ev e z = some (.int .i64 v))
    (hi : L[i]? = some (Mq P k el b m)) (hL : L.set i (Mq P k el b (qput m a v)) = L') (hc : m.1 < 17592186044416 ∧ wf2 a ∧ wfi v) (kk : TK K N e G L') : TO P r ops Q K N ⟨none, .mapUpdate T x y z, ty, pos, af, g⟩ e G L := fun A W hF hO => by
  obtain ⟨D, h1, h2, h3⟩ := hO.mq hi
  obtain ⟨W', hr, h4, h5⟩ := h1.store hk.law ht (by unfold maxLen; omega) (hk.key hc.2.1) (plainElem_int he hc.2.2)
  refine step_skip (W' := W') (Wt.of hw hF) (by simp) (by simp [execOp, hF.ev hx, hF.ev hy, hF.ev hz, hr]) (kk _ W' (hF.none undef) (mq_turned hO hi hL h5 h4 (h2.put _ _) (agq_put hk h2 h3 hc.2.1 hc.2.2)))
/-- A map cleared. -/
theorem TL.mapClearQ (i : Nat) {T k el b : Nat} {m : MqS} (hw : Wt ops e ⟨none, .call ⟨.builtin .clear, #[x], #[T]⟩, ty, pos, af, g⟩ = some true) (ht : P.underlying T = some (.map k el)) (hx : ev e x = some (.map (some b)))
    (hi : L[i]? = some (Mq P k el b m)) (hL : L.set i (Mq P k el b (qclr m)) = L') (kk : TK K N e G L') : TO P r ops Q K N ⟨none, .call ⟨.builtin .clear, #[x], #[T]⟩, ty, pos, af, g⟩ e G L := fun A W hF hO => by
  obtain ⟨D, ⟨es, clock, hb, hfit, hsz, hD⟩, h2, h3⟩ := hO.mq hi
  have hr : (Builtin.clear_ #[T] ty #[.map (some b)]).run P W = .ok (.tuple #[]) (ChangeMaps.setBlock W b (.map #[] clock)) := by
    simp [Builtin.clear_, run_underlying ht, MapKept.run_getObj_map hb, MapKept.run_setObj_map _ hb, Result.andThen, ChangeMaps.setBlock]
  have ht' : W.mapTurned (ChangeMaps.setBlock W b (.map #[] clock)) b := ⟨es, clock, #[], clock, hb, rfl⟩
  have h4 : (ChangeMaps.setBlock W b (.map #[] clock)).ownsMap P k (plainElem (H := Unit) P el) b (qclr m).1 (.map []) := ⟨#[], clock, ChangeMaps.heap_setBlock_same hb _, ⟨by simp, MapKept.stamped_empty _, fun x hx => by simp at hx⟩, by simp, rfl⟩
  refine step_value (v := .tuple #[]) (W' := ChangeMaps.setBlock W b (.map #[] clock)) (Wt.of hw hF) (by simp) (by simp [execOp, resolve, hF.ev hx, invoke, builtin, hr]) (kk _ _ (hF.none _) (mq_turned hO hi hL ht' h4 Maps.isMap_empty ⟨fun a _ _ => rfl, fun a v _ h => by cases h⟩))
end
end Go.Proofs.Ytpngojifibakiaa.Sy
set_option linter.unusedVariables false
set_option linter.unusedSimpArgs false
namespace Go.Proofs.Ytpngojifibakiaa.Sy
open Go Go.Shelf Go.RowKit Go.Maps Go.Proofs.YtpngojifibakiaaW.PrintWords
theorem step_int {P : Program} {t d : Nat} {q : IntKind} (hu : P.underlying t = some (.int q)) {cs : List Value} {l : List Lit} : P.keyLits (d + 1) t cs = some l ↔ ∃ n, (Lit.int q n).wf = true ∧ cs = [.int q n] ∧ l = [.int q n] := by
  unfold Program.keyLits
  rw [hu]
  constructor
  · intro h
    match cs, h with
    | [.int q' n], h =>
      simp only at h
      split at h
      · rename_i hq
        obtain ⟨rfl, hq⟩ := hq
        exact ⟨n, hq, rfl, (Option.some.inj h).symm⟩
      · cases h
  · rintro ⟨n, hn, rfl, rfl⟩
    simp only
    rw [if_pos ⟨trivial, hn⟩]
theorem len_two {P : Program} {t d : Nat} {f0 f1 : Field} (hu : P.underlying t = some (.struct #[f0, f1])) (hc : P.cellsOf t = 2) {xs : List Value} {l : List Lit} (h : P.keyLits (d + 1) t xs = some l) : xs.length = 2 := by
  unfold Program.keyLits at h
  rw [hu] at h
  simp only at h
  split at h
  · rename_i hl
    rw [hl.1, hc]
  · cases h
theorem key_two {P : Program} {t d : Nat} {f0 f1 : Field} (hu : P.underlying t = some (.struct #[f0, f1])) (hc : P.cellsOf t = 2) (h0 : f0.name ≠ "_") (h1 : f1.name ≠ "_") (o0 : f0.offset = 0) (o1 : f1.offset = 1) (c0 : P.cellsOf f0.type = 1) (c1 : P.cellsOf f1.type = 1) {x y : Value} : P.keyLits (d + 1) t [x, y] = (P.keyLits d f0.type [x]).bind fun l0 => (P.keyLits d f1.type [y]).bind fun l1 => some (l0 ++ l1) := by
  conv => lhs; unfold Program.keyLits
  rw [hu]
  simp only
  rw [if_pos ⟨by rw [hc]; rfl, by simp [h0, h1]⟩]
  simp only [List.mapM_cons, List.mapM_nil, o0, o1, c0, c1, List.drop_zero, List.drop_succ_cons, List.take_succ_cons, List.take_zero]
  generalize P.keyLits d f0.type [x] = A
  generalize P.keyLits d f1.type [y] = B
  cases A with
  | none => rfl
  | some a =>
    cases B with
    | none => rfl
    | some b => simp
theorem step_two {P : Program} {t d : Nat} {f0 f1 : Field} (hu : P.underlying t = some (.struct #[f0, f1])) (hc : P.cellsOf t = 2) (h0 : f0.name ≠ "_") (h1 : f1.name ≠ "_") (o0 : f0.offset = 0) (o1 : f1.offset = 1) (c0 : P.cellsOf f0.type = 1) (c1 : P.cellsOf f1.type = 1) {x y : Value} {l : List Lit} : P.keyLits (d + 1) t [x, y] = some l ↔ ∃ l0 l1, P.keyLits d f0.type [x] = some l0 ∧ P.keyLits d f1.type [y] = some l1 ∧ l = l0 ++ l1 := by
  rw [key_two hu hc h0 h1 o0 o1 c0 c1]
  constructor
  · intro h
    obtain ⟨l0, h2, h⟩ := Option.bind_eq_some_iff.1 h
    obtain ⟨l1, h3, h⟩ := Option.bind_eq_some_iff.1 h
    exact ⟨l0, l1, h2, h3, (Option.some.inj h).symm⟩
  · rintro ⟨l0, l1, h2, h3, rfl⟩
    rw [h2, h3]
    rfl
theorem cells106 : Try.prog.cellsOf 59 = 2 := by kernel_rfl
theorem cells3 : Try.prog.cellsOf 3 = 1 := by kernel_rfl
theorem lits106 {d : Nat} {xs : List Value} {L : List Lit} (h : Try.prog.keyLits (d + 1 + 1) 59 xs = some L) : ∃ a : Int × Int, wf2 a ∧ xs = [.int .i64 a.1, .int .i64 a.2] ∧ L = [.int .i64 a.1, .int .i64 a.2] := by
  have hl := len_two Try.underlying59 cells106 h
  obtain ⟨c0, c1, rfl⟩ : ∃ c0 c1, xs = [c0, c1] := by
    clear h
    match xs, hl with
    | [c0, c1], _ => exact ⟨c0, c1, rfl⟩
  obtain ⟨l0, l1, h0, h1, rfl⟩ := (step_two Try.underlying59 cells106 (by decide) (by decide) rfl rfl cells3 cells3).1 h
  obtain ⟨n0, w0, e0, rfl⟩ := (step_int Try.underlying3).1 h0
  obtain ⟨n1, w1, e1, rfl⟩ := (step_int Try.underlying3).1 h1
  simp only [List.cons.injEq, and_true] at e0 e1
  subst e0; subst e1
  exact ⟨(n0, n1), ⟨w0, w1⟩, rfl, rfl⟩
theorem size_two : ∃ d, Try.prog.types.size + 1 = d + 1 + 1 := by
  have h : 1 ≤ Try.prog.types.size := by decide +kernel
  generalize Try.prog.types.size = n at h
  exact ⟨n - 1, by omega⟩
theorem mk106 {a : Int × Int} (h : wf2 a) : keyOf Try.prog 59 (vq a) = some (kq a) := by
  have hL : Try.prog.keyLits (Try.prog.types.size + 1) 59 [.int .i64 a.1, .int .i64 a.2] = some [.int .i64 a.1, .int .i64 a.2] := by
    obtain ⟨d, hd⟩ := size_two
    rw [hd]
    exact (step_two Try.underlying59 cells106 (by decide) (by decide) rfl rfl cells3 cells3).2 ⟨[_], [_], (step_int Try.underlying3).2 ⟨_, h.1, rfl, rfl⟩, (step_int Try.underlying3).2 ⟨_, h.2, rfl, rfl⟩, rfl⟩
  unfold keyOf
  rw [Try.underlying59]
  simp only
  rw [if_pos (by
    have h1 : Try.prog.keyType 59 = true := by kernel_rfl
    have h2 : (vq a).formed Try.prog 59 = true := by unfold Value.formed; simp only; rw [Try.underlying59, cells106]; rfl
    rw [h1, h2]; rfl)]
  have : (vq a).cells.toList = [.int .i64 a.1, .int .i64 a.2] := rfl
  rw [this, hL]; rfl
theorem kq106 : Kq Try.prog 59 where
  law := Keyed.of_law (deep_law_gate (P := Try.prog) (k := 59) (by kernel_rfl) (by decide +kernel) (by decide +kernel) (by kernel_rfl) (by kernel_rfl))
  key h := mk106 h
  inv h := by
    obtain ⟨xs, L, rfl, h1, rfl⟩ := keyOf_top (by kernel_rfl) h
    obtain ⟨d, hd⟩ := size_two
    rw [hd] at h1
    obtain ⟨a, h2, h3, h4⟩ := lits106 h1
    exact ⟨a, h2, by rw [show xs = xs.toList.toArray by simp, h3], by rw [h4]; rfl⟩
set_option maxHeartbeats 4000000 in
set_option maxRecDepth 100000 in
theorem del113 {H : Type} (R : Value → Option (DataW H × List MemPlace)) (pd : Lit → DataW H → Bool) (g : Nat) (cb : Array Value) (b n : Nat) (D : DataW H) (w : World)
    (eg : ∀ args w, (callFunc g args).run Try.prog w = .ok (.enter g args) w) (hown : w.ownsMap Try.prog 59 R b n D)
    (hdel : ∀ (W : World) (key val : Value) (kl : Lit) (yd : DataW H) (yp : List MemPlace), w.grownBy W (some b) → keyOf Try.prog 59 key = some kl → R val = some (yd, yp) →
      Calls Try.prog g (#[key, val] ++ cb) W fun e w' => e = .returned (.bool (pd kl yd)) ∧ W.grownBy w' none) :
    Calls Try.prog 39 #[.map (some b), .func (.func g) #[] cb] w fun e w' => e = .returned (.tuple #[]) ∧ w'.ownsMap Try.prog 59 R b n (Lib.deleteFuncD pd D) ∧ w.grownBy w' (some b) := by
  have K := kq106.law
  have u102 := Try.underlying55
  have u106 := Try.underlying59
  obtain ⟨es0, rfl, hap, hkeys⟩ := hown.entries K
  have HD : Aside _ := hdel
  clear hdel
  go_enter Try.func39, Try.ntmps39
  go_wp2_with (first
    | (at_range; refine wpList_range_own _ rfl _ 55 rfl 59 3 K u102 R b n _ rfl hown ?_; intro w0 hrg0 hg0 hs0)
    | go_in)
  go_frame
  go_loopw [8] (fun _ wr => ∃ (left : Lit → Bool) (cnt : Nat), wr.ranges Try.prog 59 R b w.heap.size n (Fk pd es0 left) left cnt ∧ w.grownBy wr (some b))
    (fun _ wr => wr.rangeLeft b w.heap.size)
  case atStart => exact ⟨_, _, by rw [Fk_start hkeys]; exact hrg0, hg0.but _⟩
  case round =>
    obtain ⟨left, cnt, hrg, hgw⟩ := hrel
    go_wp2_with (first
      | (at_next; refine wpList_next_ranges _ rfl _ rfl 59 K R id id (fun key _ _ => ⟨key, rfl⟩) (fun v _ _ => ⟨v, rfl⟩) b w.heap.size n _ _ _ rfl hrg ?_ ?_)
      | go_in)
    · intro _ hl0
      go_wp2
      go_end0
      exact ⟨rfl, by rw [← Fk_end hl0]; exact hrg.owns, hgw⟩
    · intro x c kl yd yp w1 cnt1 hkey hlx hv hat hrg1 hlt hg1 hs1 hen
      obtain ⟨ab, hab, rfl, rfl⟩ := kq106.inv hkey
      have hgw1 := hgw.andThen hg1 (fun j hj => by cases hj; exact Or.inl (Nat.le_refl _))
      have hgA : w1.grownBy (w1.alloc (.cells #[.int .i64 ab.1, .int .i64 ab.2] 59 (0, 0))) none := World.grownBy_alloc _ _ none
      have hrgA := hrg1.alloc (.cells #[.int .i64 ab.1, .int .i64 ab.2] 59 (0, 0))
      have hgwA := hgw1.andThen hgA (fun j hj => by cases hj)
      have hnA : (w1.alloc (.cells #[.int .i64 ab.1, .int .i64 ab.2] 59 (0, 0))).heap[wr.heap.size]? = some (.cells #[.int .i64 ab.1, .int .i64 ab.2] 59 (0, 0)) := by rw [← hs1, World.alloc]; exact Array.getElem?_push_size
      have hsA : wr.heap.size < (w1.alloc (.cells #[.int .i64 ab.1, .int .i64 ab.2] 59 (0, 0))).heap.size := by rw [← hs1, World.alloc]; show _ < (Array.push _ _).size; rw [Array.size_push]; omega
      have hc := HD.out (w1.alloc (.cells #[.int .i64 ab.1, .int .i64 ab.2] 59 (0, 0))) (vq ab) c (kq ab) yd yp hgwA hkey hv
      have hbl := hrg1.owns.lt
      have hrl := hrg1.lt
      cases hp : pd (kq ab) yd <;> rw [hp] at hc
      · go_wp2_with (first
          | (go_at_fn g; refine hc.mono ?_; rintro e w2 ⟨rfl, hg2⟩)
          | go_in)
        have hrg2 := hrgA.kept hg2 (by simp) (by simp)
        go_roundw
        case rel => exact ⟨_, cnt1, by rw [← Fk_stays hap (K.key hkey) hlx hp hat]; exact hrg2, hgwA.andThen hg2 (fun j hj => by cases hj)⟩
        case measure => rw [hrg2.left_eq, hrg.left_eq]; exact hlt
      · go_wp2_with (first
          | (go_at_fn g; go_loud (refine hc.mono ?_; rintro e w2 ⟨rfl, hg2⟩; have hrg2 := hrgA.kept hg2 (by simp) (by simp); have hn2 : w2.heap[wr.heap.size]? = some (.cells #[.int .i64 ab.1, .int .i64 ab.2] 59 (0, 0)) := (hg2.block _ hsA (by simp)).trans hnA; have hn20 : w2.cell? ⟨wr.heap.size, 0, none⟩ = some (.int .i64 ab.1) := (by simp [World.cell?, hn2]); have hn21 : w2.cell? ⟨wr.heap.size, 1, none⟩ = some (.int .i64 ab.2) := (by simp [World.cell?, hn2])))
          | (at_delete; go_loud (refine wpList_delete_ranges _ rfl _ _ 55 59 rfl 3 K u102 R b w.heap.size n _ _ _ rfl hrg2 _ _ rfl hkey ?_; intro w3 cnt3 hrg3 hle hturn; go_frame))
          | go_in)
        rw [strike_twice] at hrg3
        go_roundw
        case rel => exact ⟨_, cnt3, by rw [← Fk_struck hap (K.key hkey) hlx hp hat]; exact hrg3, (hgwA.andThen hg2 (fun j hj => by cases hj)).andThen hturn.grown (fun j hj => by cases hj; exact Or.inr rfl)⟩
        case measure => rw [hrg3.left_eq, hrg.left_eq]; omega
end Go.Proofs.Ytpngojifibakiaa.Sy
set_option linter.unusedVariables false
set_option linter.unusedSimpArgs false
set_option maxRecDepth 100000
set_option maxHeartbeats 4000000
namespace Go.Proofs.Ytpngojifibakiaa.Sy
open Go Go.RowKit Go.Proofs.YtpngojifibakiaaW.PrintWords 
/-! #### struct type 59 -/
abbrev VI (n : Int) : Value := .int .i64 n
abbrev VP (b o : Nat) : Value := .pointer (some ⟨b, o, none⟩)
abbrev kI : Kd Int := Kd.int .i64
theorem TV {P : Program} {r : Option Nat} {ops : Array Oper} {Q : Exit → Act → World → Prop} {rest : List Oper} {N : Nd} {e : Env} {G : Gd} {L : List Ch} {d : Nat} {op : Op} {ty : TypeId} {pos : String} {af : Array Edge} {g : Option (Nat × Bool)} {v : Value} (hw : Wt ops e ⟨some d, op, ty, pos, af, g⟩ = some true) (hd : Nat.blt d N.n = true) (hnd : isDefer op = false) (hr : Val P N e G L ⟨some d, op, ty, pos, af, g⟩ v) (k : TK (wpListIn (Fw r) 0 P ops Q rest) N ((d, v) :: e) G L) : TL P r ops Q N (⟨some d, op, ty, pos, af, g⟩ :: rest) e G L := TL.cons (TO.val hw hd hnd hr k)
structure S59 where
  f0 : Int
  f1 : Int
def z59 : S59 := ⟨(0 : Int), (0 : Int)⟩
def k59 : Kd S59 := Kd.iso (Kd.pair (Kd.int .i64) (Kd.int .i64)) (fun x : S59 => (x.f0, x.f1))
def rd_T59 (xs : List S59) (i : Int) : S59 := xs.getD i.toNat z59
theorem agg3 : aggB Try.prog 3 = some false := by kernel_rfl
theorem agg25 : aggB Try.prog 25 = some false := by kernel_rfl
theorem hbd13 : hasBody Try.prog 13 = true := by kernel_rfl
theorem hbd24 : hasBody Try.prog 24 = true := by kernel_rfl
theorem fsz3 : (Try.prog.info? 3).map (·.size) = some 1 := by kernel_rfl
def forward_Apart.f (a0:(List Int)) (a1:Int) (a2:Int):Option Bool:=jn (γ:=Bool) (fun (x27:Int)=>jn (γ:=Bool) (fun (x50:Int)=>(if 0 < x27 then (if 0 < x50 then some (!decide (x27=x50)) else some false) else some false)) (fun (j51:(Int → Option Bool))=>jn (γ:=Bool) (fun (x67:Bool)=>(if x67=true then j51 0 else (at? a0 a2).bind fun y71=>j51 (if y71 < 0 then 0 else y71))) (fun (j68:(Bool → Option Bool))=>(if a2 < 0 then j68 true else j68 (decide ((a0.length:Int) ≤ a2)))))) (fun (j28:(Int → Option Bool))=>jn (γ:=Bool) (fun (x86:Bool)=>(if x86=true then j28 0 else (at? a0 a1).bind fun y90=>j28 (if y90 < 0 then 0 else y90))) (fun (j87:(Bool → Option Bool))=>(if a1 < 0 then j87 true else j87 (decide ((a0.length:Int) ≤ a1)))))
def forward_Apart.post (G:Gd)  (r:Bool) (v:Value) (G':Gd) (Lr:List Ch):Prop:=G=G'∧v=.bool r∧Lr=[]
theorem forward_Apart.calls {G:Gd} {r:Bool} {a0:(List Int)} {a1:Int} {a2:Int} {A1:Option Addr} {c2:Nat} (hr3:Rd G kI A1 a0) (hl4:a0.length ≤ c2) (h:forward_Apart.f a0 a1 a2=some r):Fn Try.prog 13 G [] [.slice A1 a0.length c2,VI a1,VI a2] (forward_Apart.post G  r):=by
 refine Fn.intro (e:=[(0,.slice A1 a0.length c2),(1,VI a1),(2,VI a2)]) 28 Try.func13 rfl Try.ntmps13 rfl rfl (Nat.le_of_ble_eq_true rfl) (fun L=>?_)
 unfold forward_Apart.f at h
 refine TC.seq ?_
 refine TC.region ?_
 refine TL.cons (TL.box (cs:=[.slice A1 a0.length c2]) rfl rfl rfl rfl (fun b5=>?_))
 refine TV rfl rfl rfl (Val.assign rfl) ?_
 refine TL.nil ?_
 refine TQ.then_ ?_
 refine TC.seq ?_
 refine TC.region ?_
 refine TV rfl rfl rfl (Val.makeFunc (xs:=[]) (ys:=[VP b5 0]) rfl rfl) ?_
 refine TV rfl rfl rfl (Val.assign rfl) ?_
 refine TL.nil ?_
 refine TQ.then_ ?_
 refine TC.seq ?_
 refine TC.region ?_
 refine TV rfl rfl rfl (Val.move rfl) ?_
 refine TV rfl rfl rfl (Val.move rfl) ?_
 refine TL.cons (TO.inl (args:=[VI a1,VP b5 0]) (e':=[(0,VI a1),(1,VP b5 0)]) 17 rfl rfl hbd24 rfl rfl Try.func24 rfl Try.ntmps24 rfl rfl (Nat.le_of_ble_eq_true rfl) (fun a6 hf7=>?_))
 obtain ⟨j28,hj28,h⟩:=jn_no h
 refine TC.after (fun en W=>∃ (x27:Int),j28 x27=some r∧en=.returned (VI x27)∧Own G (Blk b5 [.slice A1 a0.length c2] 25::L) W) ?_ ?_
 ·
  rintro en W ⟨x27,h,rfl,hO⟩
  rw [hj28] at h
  refine (After.mk hf7 rfl ?_) W hO
  clear hO
  refine TV rfl rfl rfl (Val.move rfl) ?_
  refine TV rfl rfl rfl (Val.move rfl) ?_
  refine TL.cons (TO.inl (args:=[VI a2,VP b5 0]) (e':=[(0,VI a2),(1,VP b5 0)]) 17 rfl rfl hbd24 rfl rfl Try.func24 rfl Try.ntmps24 rfl rfl (Nat.le_of_ble_eq_true rfl) (fun a29 hf30=>?_))
  obtain ⟨j51,hj51,h⟩:=jn_no h
  refine TC.after (fun en W=>∃ (x50:Int),j51 x50=some r∧en=.returned (VI x50)∧Own G (Blk b5 [.slice A1 a0.length c2] 25::L) W) ?_ ?_
  ·
   rintro en W ⟨x50,h,rfl,hO⟩
   rw [hj51] at h
   refine (After.mk hf30 rfl ?_) W hO
   clear hO
   refine TV rfl rfl rfl (Val.assign rfl) ?_
   refine TV rfl rfl rfl (Val.assign rfl) ?_
   refine TL.nil ?_
   refine TQ.then_ ?_
   refine TC.seq ?_
   refine TC.region ?_
   refine TV rfl rfl rfl (Val.move rfl) ?_
   refine TV rfl rfl rfl (Val.cmp rfl rfl run_gtr) ?_
   refine TV rfl rfl rfl (Val.move rfl) ?_
   refine TK.split (p:=0 < x27) h (fun hg58 h=>?_) (fun hg58 h=>?_)
   ·
    have hk59:decide (0 < x27)=true:=decide_eq_true hg58
    refine TV (Wt.yes rfl rfl rfl hk59) rfl rfl (Val.move rfl) ?_
    refine TV (Wt.yes rfl rfl rfl hk59) rfl rfl (Val.cmp rfl rfl run_gtr) ?_
    refine TV rfl rfl rfl (Val.pickY rfl hk59 rfl) ?_
    refine TV rfl rfl rfl (Val.move rfl) ?_
    refine TK.split (p:=0 < x50) h (fun hg60 h=>?_) (fun hg60 h=>?_)
    ·
     have hk61:decide (0 < x50)=true:=decide_eq_true hg60
     refine TV (Wt.yes rfl rfl rfl hk61) rfl rfl (Val.move rfl) ?_
     refine TV (Wt.yes rfl rfl rfl hk61) rfl rfl (Val.move rfl) ?_
     refine TV (Wt.yes rfl rfl rfl hk61) rfl rfl (Val.cmp rfl rfl run_neq) ?_
     refine TV rfl rfl rfl (Val.pickY rfl hk61 rfl) ?_
     refine TV rfl rfl rfl (Val.assign rfl) ?_
     refine TL.nil ?_
     refine TQ.then_ ?_
     refine TC.ret ?_
     obtain rfl:=Option.some.inj h
     exact TQ.fin (.inl rfl) rfl Try.results13 (.tmp rfl .nil) rfl (FRel.mk (Ls:=[]) [] 1 (Gd.le.refl _) rfl rfl rfl ⟨rfl,rfl,rfl⟩)
    ·
     have hk62:decide (0 < x50)=false:=decide_eq_false hg60
     refine TL.cons (TL.not (Wt.no rfl rfl rfl hk62) rfl ?_)
     refine TL.cons (TL.not (Wt.no rfl rfl rfl hk62) rfl ?_)
     refine TL.cons (TL.not (Wt.no rfl rfl rfl hk62) rfl ?_)
     refine TV rfl rfl rfl (Val.pickN rfl hk62 rfl) ?_
     refine TV rfl rfl rfl (Val.assign rfl) ?_
     refine TL.nil ?_
     refine TQ.then_ ?_
     refine TC.ret ?_
     obtain rfl:=Option.some.inj h
     exact TQ.fin (.inl rfl) rfl Try.results13 (.tmp rfl .nil) rfl (FRel.mk (Ls:=[]) [] 1 (Gd.le.refl _) rfl rfl rfl ⟨rfl,rfl,rfl⟩)
   ·
    have hk63:decide (0 < x27)=false:=decide_eq_false hg58
    refine TL.cons (TL.not (Wt.no rfl rfl rfl hk63) rfl ?_)
    refine TL.cons (TL.not (Wt.no rfl rfl rfl hk63) rfl ?_)
    refine TV rfl rfl rfl (Val.pickN rfl hk63 rfl) ?_
    refine TV rfl rfl rfl (Val.move rfl) ?_
    refine TL.cons (TL.not (Wt.no rfl rfl rfl rfl) rfl ?_)
    refine TL.cons (TL.not (Wt.no rfl rfl rfl rfl) rfl ?_)
    refine TL.cons (TL.not (Wt.no rfl rfl rfl rfl) rfl ?_)
    refine TV rfl rfl rfl (Val.pickN rfl rfl rfl) ?_
    refine TV rfl rfl rfl (Val.assign rfl) ?_
    refine TL.nil ?_
    refine TQ.then_ ?_
    refine TC.ret ?_
    obtain rfl:=Option.some.inj h
    exact TQ.fin (.inl rfl) rfl Try.results13 (.tmp rfl .nil) rfl (FRel.mk (Ls:=[]) [] 1 (Gd.le.refl _) rfl rfl rfl ⟨rfl,rfl,rfl⟩)
  ·
   refine TC.seq ?_
   refine TC.region ?_
   refine TV rfl rfl rfl (Val.assign rfl) ?_
   refine TL.nil ?_
   refine TQ.then_ ?_
   refine TC.seq ?_
   refine TC.seq ?_
   obtain ⟨j68,hj68,h⟩:=jn_no h
   refine TC.tail (fun a W=>∃ (x67:Bool),j68 x67=some r∧Fr 17 a [(0,VI a2),(1,VP b5 0),(11,.bool x67)]∧Own G (Blk b5 [.slice A1 a0.length c2] 25::L) W) ?_ ?_
   ·
    rintro a W ⟨x67,h,hF,hO⟩
    rw [hj68] at h
    refine TQ.use ?_ hF hO
    clear hF hO
    refine TQ.then_ ?_
    refine TC.cond_b rfl h (fun hc70 h=>?_) (fun hc70 h=>?_)
    ·
     refine TC.seq ?_
     refine TC.region ?_
     refine TV rfl rfl rfl (Val.assign rfl) ?_
     refine TL.nil ?_
     refine TQ.then_ ?_
     refine TC.ret ?_
     refine TQ.thenR ?_
     exact TQ.fin (v:=VI 0) (.inl rfl) rfl Try.results24 (.tmp rfl .nil) rfl (fun W hO=>⟨0,h,rfl,hO.selT (Ls:=[Blk b5 [.slice A1 a0.length c2] 25]) [0] 1 rfl rfl rfl⟩)
    ·
     refine TC.skip ?_
     refine TQ.then_ ?_
     refine TC.seq ?_
     refine TC.region ?_
     refine TV rfl rfl rfl (Val.loadB 0 agg25 rfl rfl rfl) ?_
     refine TV rfl rfl rfl (Val.move rfl) ?_
     obtain ⟨y71,hx72,h⟩:=bind_no h
     obtain ⟨ad73,cs79,hA74,hi75,hj76,hcl77,hK78⟩:=Rd.at hr3 hx72
     obtain rfl:=RdK.int hK78
     refine TV rfl rfl rfl (Val.indexAddr Try.underlying25 fsz3 rfl hA74 rfl hi75 hj76) ?_
     refine TV rfl rfl rfl (Val.loadS agg3 rfl (hcl77 0 _ rfl)) ?_
     refine TV rfl rfl rfl (Val.max2 rfl rfl) ?_
     refine TV rfl rfl rfl (Val.assign rfl) ?_
     refine TL.nil ?_
     refine TQ.then_ ?_
     refine TC.ret ?_
     exact TQ.fin (v:=VI (if y71 < 0 then 0 else y71)) (.inl rfl) rfl Try.results24 (.tmp rfl .nil) rfl (fun W hO=>⟨(if y71 < 0 then 0 else y71),h,rfl,hO.selT (Ls:=[Blk b5 [.slice A1 a0.length c2] 25]) [0] 1 rfl rfl rfl⟩)
   ·
    refine TC.region ?_
    refine TV rfl rfl rfl (Val.move rfl) ?_
    refine TV rfl rfl rfl (Val.cmp rfl rfl run_lss) ?_
    refine TV rfl rfl rfl (Val.move rfl) ?_
    refine TK.split (p:=a2 < 0) h (fun hg80 h=>?_) (fun hg80 h=>?_)
    ·
     have hk81:decide (a2 < 0)=true:=decide_eq_true hg80
     refine TL.cons (TL.not (Wt.no rfl rfl rfl hk81) rfl ?_)
     refine TL.cons (TL.not (Wt.no rfl rfl rfl hk81) rfl ?_)
     refine TL.cons (TL.not (Wt.no rfl rfl rfl hk81) rfl ?_)
     refine TL.cons (TL.not (Wt.no rfl rfl rfl hk81) rfl ?_)
     refine TV rfl rfl rfl (Val.pickY rfl hk81 rfl) ?_
     refine TL.nil ?_
     exact fun a W hF hO=>⟨true,h,hF.sub ⟨rfl,rfl,rfl,trivial⟩,hO.selT (Ls:=[Blk b5 [.slice A1 a0.length c2] 25]) [0] 1 rfl rfl rfl⟩
    ·
     have hk82:decide (a2 < 0)=false:=decide_eq_false hg80
     refine TV (Wt.yes rfl rfl rfl hk82) rfl rfl (Val.move rfl) ?_
     refine TV (Wt.yes rfl rfl rfl hk82) rfl rfl (Val.loadB 0 agg25 rfl rfl rfl) ?_
     refine TV (Wt.yes rfl rfl rfl hk82) rfl rfl (Val.len Try.underlying25 rfl) ?_
     refine TV (Wt.yes rfl rfl rfl hk82) rfl rfl (Val.cmp rfl rfl run_geq) ?_
     refine TV rfl rfl rfl (Val.pickN rfl hk82 rfl) ?_
     refine TL.nil ?_
     exact fun a W hF hO=>⟨decide ((a0.length:Int) ≤ a2),h,hF.sub ⟨rfl,rfl,rfl,trivial⟩,hO.selT (Ls:=[Blk b5 [.slice A1 a0.length c2] 25]) [0] 1 rfl rfl rfl⟩
 ·
  refine TC.seq ?_
  refine TC.region ?_
  refine TV rfl rfl rfl (Val.assign rfl) ?_
  refine TL.nil ?_
  refine TQ.then_ ?_
  refine TC.seq ?_
  refine TC.seq ?_
  obtain ⟨j87,hj87,h⟩:=jn_no h
  refine TC.tail (fun a W=>∃ (x86:Bool),j87 x86=some r∧Fr 17 a [(0,VI a1),(1,VP b5 0),(11,.bool x86)]∧Own G (Blk b5 [.slice A1 a0.length c2] 25::L) W) ?_ ?_
  ·
   rintro a W ⟨x86,h,hF,hO⟩
   rw [hj87] at h
   refine TQ.use ?_ hF hO
   clear hF hO
   refine TQ.then_ ?_
   refine TC.cond_b rfl h (fun hc89 h=>?_) (fun hc89 h=>?_)
   ·
    refine TC.seq ?_
    refine TC.region ?_
    refine TV rfl rfl rfl (Val.assign rfl) ?_
    refine TL.nil ?_
    refine TQ.then_ ?_
    refine TC.ret ?_
    refine TQ.thenR ?_
    exact TQ.fin (v:=VI 0) (.inl rfl) rfl Try.results24 (.tmp rfl .nil) rfl (fun W hO=>⟨0,h,rfl,hO.selT (Ls:=[Blk b5 [.slice A1 a0.length c2] 25]) [0] 1 rfl rfl rfl⟩)
   ·
    refine TC.skip ?_
    refine TQ.then_ ?_
    refine TC.seq ?_
    refine TC.region ?_
    refine TV rfl rfl rfl (Val.loadB 0 agg25 rfl rfl rfl) ?_
    refine TV rfl rfl rfl (Val.move rfl) ?_
    obtain ⟨y90,hx91,h⟩:=bind_no h
    obtain ⟨ad92,cs98,hA93,hi94,hj95,hcl96,hK97⟩:=Rd.at hr3 hx91
    obtain rfl:=RdK.int hK97
    refine TV rfl rfl rfl (Val.indexAddr Try.underlying25 fsz3 rfl hA93 rfl hi94 hj95) ?_
    refine TV rfl rfl rfl (Val.loadS agg3 rfl (hcl96 0 _ rfl)) ?_
    refine TV rfl rfl rfl (Val.max2 rfl rfl) ?_
    refine TV rfl rfl rfl (Val.assign rfl) ?_
    refine TL.nil ?_
    refine TQ.then_ ?_
    refine TC.ret ?_
    exact TQ.fin (v:=VI (if y90 < 0 then 0 else y90)) (.inl rfl) rfl Try.results24 (.tmp rfl .nil) rfl (fun W hO=>⟨(if y90 < 0 then 0 else y90),h,rfl,hO.selT (Ls:=[Blk b5 [.slice A1 a0.length c2] 25]) [0] 1 rfl rfl rfl⟩)
  ·
   refine TC.region ?_
   refine TV rfl rfl rfl (Val.move rfl) ?_
   refine TV rfl rfl rfl (Val.cmp rfl rfl run_lss) ?_
   refine TV rfl rfl rfl (Val.move rfl) ?_
   refine TK.split (p:=a1 < 0) h (fun hg99 h=>?_) (fun hg99 h=>?_)
   ·
    have hk100:decide (a1 < 0)=true:=decide_eq_true hg99
    refine TL.cons (TL.not (Wt.no rfl rfl rfl hk100) rfl ?_)
    refine TL.cons (TL.not (Wt.no rfl rfl rfl hk100) rfl ?_)
    refine TL.cons (TL.not (Wt.no rfl rfl rfl hk100) rfl ?_)
    refine TL.cons (TL.not (Wt.no rfl rfl rfl hk100) rfl ?_)
    refine TV rfl rfl rfl (Val.pickY rfl hk100 rfl) ?_
    refine TL.nil ?_
    exact fun a W hF hO=>⟨true,h,hF.sub ⟨rfl,rfl,rfl,trivial⟩,hO.selT (Ls:=[Blk b5 [.slice A1 a0.length c2] 25]) [0] 1 rfl rfl rfl⟩
   ·
    have hk101:decide (a1 < 0)=false:=decide_eq_false hg99
    refine TV (Wt.yes rfl rfl rfl hk101) rfl rfl (Val.move rfl) ?_
    refine TV (Wt.yes rfl rfl rfl hk101) rfl rfl (Val.loadB 0 agg25 rfl rfl rfl) ?_
    refine TV (Wt.yes rfl rfl rfl hk101) rfl rfl (Val.len Try.underlying25 rfl) ?_
    refine TV (Wt.yes rfl rfl rfl hk101) rfl rfl (Val.cmp rfl rfl run_geq) ?_
    refine TV rfl rfl rfl (Val.pickN rfl hk101 rfl) ?_
    refine TL.nil ?_
    exact fun a W hF hO=>⟨decide ((a0.length:Int) ≤ a1),h,hF.sub ⟨rfl,rfl,rfl,trivial⟩,hO.selT (Ls:=[Blk b5 [.slice A1 a0.length c2] 25]) [0] 1 rfl rfl rfl⟩
def forward_known_stored_1.f (a0:S59) (a1:Int) (c0_0:Int) (c0_1:Int) (c0_2:Int) (c0_3:Int) (c0_4:Int) (c0_5:(List Int)) (c1_0:(List Int)):Option Bool:=jn (γ:=Bool) (fun (x17:Bool)=>(if (!x17)=true then (forward_Apart.f c1_0 a0.f0 c0_2).bind fun (y26:Bool)=>some (!y26) else some false)) (fun (j18:(Bool → Option Bool))=>(if a0.f0=c0_2 then j18 (!decide (a0.f1=c0_4)) else j18 false))
def forward_known_stored_1.post (G:Gd)  (r:Bool) (v:Value) (G':Gd) (Lr:List Ch):Prop:=G=G'∧v=.bool r∧Lr=[]
theorem forward_known_stored_1.calls {G:Gd} {r:Bool} {a0:S59} {a1:Int} {c0_0:Int} {c0_1:Int} {c0_2:Int} {c0_3:Int} {c0_4:Int} {c0_5:(List Int)} {c1_0:(List Int)} {b1:Nat} {A2:Option Addr} {c3:Nat} {b7:Nat} {A8:Option Addr} {c9:Nat} (hr4:Rd G kI A2 c0_5) (hl5:c0_5.length ≤ c3) (hc6:∀ q u,([VI c0_0,VI c0_1,VI c0_2,VI c0_3,VI c0_4,.slice A2 c0_5.length c3]:List Value)[q]?=some u → Cl G ((⟨b1,0,none⟩:Addr).add (0 + q)) u) (hr10:Rd G kI A8 c1_0) (hl11:c1_0.length ≤ c9) (hc12:∀ q u,([.slice A8 c1_0.length c9]:List Value)[q]?=some u → Cl G ((⟨b7,0,none⟩:Addr).add (0 + q)) u) (h:forward_known_stored_1.f a0 a1 c0_0 c0_1 c0_2 c0_3 c0_4 c0_5 c1_0=some r):Fn Try.prog 40 G [] [.agg #[VI a0.f0,VI a0.f1],VI a1,.pointer (some ((⟨b1,0,none⟩:Addr).add (0))),.pointer (some ((⟨b7,0,none⟩:Addr).add (0)))] (forward_known_stored_1.post G  r):=by
 refine Fn.intro (e:=[(0,.agg #[VI a0.f0,VI a0.f1]),(1,VI a1),(2,.pointer (some ((⟨b1,0,none⟩:Addr).add (0)))),(3,.pointer (some ((⟨b7,0,none⟩:Addr).add (0))))]) 31 Try.func40 rfl Try.ntmps40 rfl rfl (Nat.le_of_ble_eq_true rfl) (fun L=>?_)
 unfold forward_known_stored_1.f at h
 refine TC.seq ?_
 refine TC.region ?_
 refine TL.cons (TL.box (cs:=[VI a0.f0,VI a0.f1]) rfl rfl rfl rfl (fun b13=>?_))
 refine TV rfl rfl rfl (Val.assign rfl) ?_
 refine TL.nil ?_
 refine TQ.then_ ?_
 refine TC.seq ?_
 obtain ⟨j18,hj18,h⟩:=jn_no h
 refine TC.tail (fun a W=>∃ (x17:Bool),j18 x17=some r∧Fr 31 a [(2,.pointer (some ((⟨b1,0,none⟩:Addr).add (0)))),(3,.pointer (some ((⟨b7,0,none⟩:Addr).add (0)))),(4,VP b13 0),(7,.bool x17)]∧Own G (Blk b13 [VI a0.f0,VI a0.f1] 59::L) W) ?_ ?_
 ·
  rintro a W ⟨x17,h,hF,hO⟩
  rw [hj18] at h
  refine TQ.use ?_ hF hO
  clear hF hO
  refine TQ.then_ ?_
  refine TC.seq ?_
  refine TC.region ?_
  refine TV rfl rfl rfl (Val.move rfl) ?_
  refine TV rfl rfl rfl (Val.not_ rfl) ?_
  refine TV rfl rfl rfl (Val.move rfl) ?_
  refine TK.split (p:=(!x17)=true) h (fun hg24 h=>?_) (fun hg24 h=>?_)
  ·
   have hk25:(!x17)=true:=hg24
   refine TV (Wt.yes rfl rfl rfl hk25) rfl rfl (Val.loadS agg25 rfl (hc12 0 _ rfl)) ?_
   refine TV (Wt.yes rfl rfl rfl hk25) rfl rfl (Val.fieldAddrB Try.underlying59 rfl fsz3 rfl rfl rfl) ?_
   refine TV (Wt.yes rfl rfl rfl hk25) rfl rfl (Val.loadB 0 agg3 rfl rfl rfl) ?_
   refine TV (Wt.yes rfl rfl rfl hk25) rfl rfl (Val.fieldAddrE Try.underlying37 rfl fsz3 rfl rfl) ?_
   refine TV (Wt.yes rfl rfl rfl hk25) rfl rfl (Val.loadS agg3 rfl (hc6 2 _ rfl)) ?_
   obtain ⟨y26,hy27,h⟩:=bind_no h
   refine TL.cons (TL.callV (Lin:=[]) (args:=[.slice A8 c1_0.length c9,VI a0.f0,VI c0_2]) (Wt.yes rfl rfl rfl hk25) rfl rfl hbd13 rfl rfl (forward_Apart.calls (a0:=c1_0) (a1:=a0.f0) (a2:=c0_2) hr10 hl11 hy27) rfl ?_)
   rintro _ _ _ _ ⟨rfl,rfl,rfl⟩
   refine TV (Wt.yes rfl rfl rfl hk25) rfl rfl (Val.not_ rfl) ?_
   refine TV rfl rfl rfl (Val.pickY rfl hk25 rfl) ?_
   refine TV rfl rfl rfl (Val.assign rfl) ?_
   refine TL.nil ?_
   refine TQ.then_ ?_
   refine TC.ret ?_
   obtain rfl:=Option.some.inj h
   exact TQ.fin (.inl rfl) rfl Try.results40 (.tmp rfl .nil) rfl (FRel.mk (Ls:=[]) [] 1 (Gd.le.refl _) rfl rfl rfl ⟨rfl,rfl,rfl⟩)
  ·
   have hk28:(!x17)=false:=(by simpa using hg24)
   refine TL.cons (TL.not (Wt.no rfl rfl rfl hk28) rfl ?_)
   refine TL.cons (TL.not (Wt.no rfl rfl rfl hk28) rfl ?_)
   refine TL.cons (TL.not (Wt.no rfl rfl rfl hk28) rfl ?_)
   refine TL.cons (TL.not (Wt.no rfl rfl rfl hk28) rfl ?_)
   refine TL.cons (TL.not (Wt.no rfl rfl rfl hk28) rfl ?_)
   refine TL.cons (TL.not (Wt.no rfl rfl rfl hk28) rfl ?_)
   refine TL.cons (TL.not (Wt.no rfl rfl rfl hk28) rfl ?_)
   refine TV rfl rfl rfl (Val.pickN rfl hk28 rfl) ?_
   refine TV rfl rfl rfl (Val.assign rfl) ?_
   refine TL.nil ?_
   refine TQ.then_ ?_
   refine TC.ret ?_
   obtain rfl:=Option.some.inj h
   exact TQ.fin (.inl rfl) rfl Try.results40 (.tmp rfl .nil) rfl (FRel.mk (Ls:=[]) [] 1 (Gd.le.refl _) rfl rfl rfl ⟨rfl,rfl,rfl⟩)
 ·
  refine TC.region ?_
  refine TV rfl rfl rfl (Val.fieldAddrB Try.underlying59 rfl fsz3 rfl rfl rfl) ?_
  refine TV rfl rfl rfl (Val.loadB 0 agg3 rfl rfl rfl) ?_
  refine TV rfl rfl rfl (Val.fieldAddrE Try.underlying37 rfl fsz3 rfl rfl) ?_
  refine TV rfl rfl rfl (Val.loadS agg3 rfl (hc6 2 _ rfl)) ?_
  refine TV rfl rfl rfl (Val.cmp rfl rfl run_eql) ?_
  refine TV rfl rfl rfl (Val.move rfl) ?_
  refine TK.split (p:=a0.f0=c0_2) h (fun hg29 h=>?_) (fun hg29 h=>?_)
  ·
   have hk30:decide (a0.f0=c0_2)=true:=decide_eq_true hg29
   refine TV (Wt.yes rfl rfl rfl hk30) rfl rfl (Val.fieldAddrB Try.underlying59 rfl fsz3 rfl rfl rfl) ?_
   refine TV (Wt.yes rfl rfl rfl hk30) rfl rfl (Val.loadB 0 agg3 rfl rfl rfl) ?_
   refine TV (Wt.yes rfl rfl rfl hk30) rfl rfl (Val.fieldAddrE Try.underlying37 rfl fsz3 rfl rfl) ?_
   refine TV (Wt.yes rfl rfl rfl hk30) rfl rfl (Val.loadS agg3 rfl (hc6 4 _ rfl)) ?_
   refine TV (Wt.yes rfl rfl rfl hk30) rfl rfl (Val.cmp rfl rfl run_neq) ?_
   refine TV rfl rfl rfl (Val.pickY rfl hk30 rfl) ?_
   refine TV rfl rfl rfl (Val.assign rfl) ?_
   refine TL.nil ?_
   exact fun a W hF hO=>⟨(!decide (a0.f1=c0_4)),h,hF.sub ⟨rfl,rfl,rfl,rfl,trivial⟩,hO.selT (Ls:=[Blk b13 [VI a0.f0,VI a0.f1] 59]) [0] 1 rfl rfl rfl⟩
  ·
   have hk31:decide (a0.f0=c0_2)=false:=decide_eq_false hg29
   refine TL.cons (TL.not (Wt.no rfl rfl rfl hk31) rfl ?_)
   refine TL.cons (TL.not (Wt.no rfl rfl rfl hk31) rfl ?_)
   refine TL.cons (TL.not (Wt.no rfl rfl rfl hk31) rfl ?_)
   refine TL.cons (TL.not (Wt.no rfl rfl rfl hk31) rfl ?_)
   refine TL.cons (TL.not (Wt.no rfl rfl rfl hk31) rfl ?_)
   refine TV rfl rfl rfl (Val.pickN rfl hk31 rfl) ?_
   refine TV rfl rfl rfl (Val.assign rfl) ?_
   refine TL.nil ?_
   exact fun a W hF hO=>⟨false,h,hF.sub ⟨rfl,rfl,rfl,rfl,trivial⟩,hO.selT (Ls:=[Blk b13 [VI a0.f0,VI a0.f1] 59]) [0] 1 rfl rfl rfl⟩
def forward_known_set_1.f (a0:S59) (a1:Int) (c0_0:Int):Option Bool:=(if (!decide (c0_0=0))=true then (if a0.f0=c0_0 then some true else some (decide (a1=c0_0))) else some false)
def forward_known_set_1.post (G:Gd)  (r:Bool) (v:Value) (G':Gd) (Lr:List Ch):Prop:=G=G'∧v=.bool r∧Lr=[]
theorem forward_known_set_1.calls {G:Gd} {r:Bool} {a0:S59} {a1:Int} {c0_0:Int} {b1:Nat} (hc2:∀ q u,([VI c0_0]:List Value)[q]?=some u → Cl G ((⟨b1,0,none⟩:Addr).add (0 + q)) u) (h:forward_known_set_1.f a0 a1 c0_0=some r):Fn Try.prog 41 G [] [.agg #[VI a0.f0,VI a0.f1],VI a1,.pointer (some ((⟨b1,0,none⟩:Addr).add (0)))] (forward_known_set_1.post G  r):=by
 refine Fn.intro (e:=[(0,.agg #[VI a0.f0,VI a0.f1]),(1,VI a1),(2,.pointer (some ((⟨b1,0,none⟩:Addr).add (0))))]) 19 Try.func41 rfl Try.ntmps41 rfl rfl (Nat.le_of_ble_eq_true rfl) (fun L=>?_)
 unfold forward_known_set_1.f at h
 refine TC.seq ?_
 refine TC.region ?_
 refine TL.cons (TL.box (cs:=[VI a0.f0,VI a0.f1]) rfl rfl rfl rfl (fun b3=>?_))
 refine TV rfl rfl rfl (Val.assign rfl) ?_
 refine TL.nil ?_
 refine TQ.then_ ?_
 refine TC.seq ?_
 refine TC.region ?_
 refine TV rfl rfl rfl (Val.loadS agg3 rfl (hc2 0 _ rfl)) ?_
 refine TV rfl rfl rfl (Val.cmp rfl rfl run_neq) ?_
 refine TV rfl rfl rfl (Val.move rfl) ?_
 refine TK.split (p:=(!decide (c0_0=0))=true) h (fun hg10 h=>?_) (fun hg10 h=>?_)
 ·
  have hk11:(!decide (c0_0=0))=true:=hg10
  refine TV (Wt.yes rfl rfl rfl hk11) rfl rfl (Val.fieldAddrB Try.underlying59 rfl fsz3 rfl rfl rfl) ?_
  refine TV (Wt.yes rfl rfl rfl hk11) rfl rfl (Val.loadB 0 agg3 rfl rfl rfl) ?_
  refine TV (Wt.yes rfl rfl rfl hk11) rfl rfl (Val.loadS agg3 rfl (hc2 0 _ rfl)) ?_
  refine TV (Wt.yes rfl rfl rfl hk11) rfl rfl (Val.cmp rfl rfl run_eql) ?_
  refine TV (Wt.yes rfl rfl rfl hk11) rfl rfl (Val.move rfl) ?_
  refine TK.split (p:=a0.f0=c0_0) h (fun hg12 h=>?_) (fun hg12 h=>?_)
  ·
   have hk13:decide (a0.f0=c0_0)=true:=decide_eq_true hg12
   refine TL.cons (TL.not (Wt.no rfl rfl rfl hk13) rfl ?_)
   refine TL.cons (TL.not (Wt.no rfl rfl rfl hk13) rfl ?_)
   refine TL.cons (TL.not (Wt.no rfl rfl rfl hk13) rfl ?_)
   refine TV (Wt.yes rfl rfl rfl hk11) rfl rfl (Val.pickY rfl hk13 rfl) ?_
   refine TV rfl rfl rfl (Val.pickY rfl hk11 rfl) ?_
   refine TV rfl rfl rfl (Val.assign rfl) ?_
   refine TL.nil ?_
   refine TQ.then_ ?_
   refine TC.ret ?_
   obtain rfl:=Option.some.inj h
   exact TQ.fin (.inl rfl) rfl Try.results41 (.tmp rfl .nil) rfl (FRel.mk (Ls:=[]) [] 1 (Gd.le.refl _) rfl rfl rfl ⟨rfl,rfl,rfl⟩)
  ·
   have hk14:decide (a0.f0=c0_0)=false:=decide_eq_false hg12
   refine TV (Wt.yes rfl rfl rfl hk14) rfl rfl (Val.move rfl) ?_
   refine TV (Wt.yes rfl rfl rfl hk14) rfl rfl (Val.loadS agg3 rfl (hc2 0 _ rfl)) ?_
   refine TV (Wt.yes rfl rfl rfl hk14) rfl rfl (Val.cmp rfl rfl run_eql) ?_
   refine TV (Wt.yes rfl rfl rfl hk11) rfl rfl (Val.pickN rfl hk14 rfl) ?_
   refine TV rfl rfl rfl (Val.pickY rfl hk11 rfl) ?_
   refine TV rfl rfl rfl (Val.assign rfl) ?_
   refine TL.nil ?_
   refine TQ.then_ ?_
   refine TC.ret ?_
   obtain rfl:=Option.some.inj h
   exact TQ.fin (.inl rfl) rfl Try.results41 (.tmp rfl .nil) rfl (FRel.mk (Ls:=[]) [] 1 (Gd.le.refl _) rfl rfl rfl ⟨rfl,rfl,rfl⟩)
 ·
  have hk15:(!decide (c0_0=0))=false:=(by simpa using hg10)
  refine TL.cons (TL.not (Wt.no rfl rfl rfl hk15) rfl ?_)
  refine TL.cons (TL.not (Wt.no rfl rfl rfl hk15) rfl ?_)
  refine TL.cons (TL.not (Wt.no rfl rfl rfl hk15) rfl ?_)
  refine TL.cons (TL.not (Wt.no rfl rfl rfl hk15) rfl ?_)
  refine TL.cons (TL.not (Wt.no rfl rfl rfl hk15) rfl ?_)
  refine TL.cons (TL.not rfl rfl ?_)
  refine TL.cons (TL.not rfl rfl ?_)
  refine TL.cons (TL.not rfl rfl ?_)
  refine TL.cons (TL.not (Wt.no rfl rfl rfl hk15) rfl ?_)
  refine TV rfl rfl rfl (Val.pickN rfl hk15 rfl) ?_
  refine TV rfl rfl rfl (Val.assign rfl) ?_
  refine TL.nil ?_
  refine TQ.then_ ?_
  refine TC.ret ?_
  obtain rfl:=Option.some.inj h
  exact TQ.fin (.inl rfl) rfl Try.results41 (.tmp rfl .nil) rfl (FRel.mk (Ls:=[]) [] 1 (Gd.le.refl _) rfl rfl rfl ⟨rfl,rfl,rfl⟩)
end Go.Proofs.Ytpngojifibakiaa.Sy
set_option linter.unusedVariables false
set_option linter.unusedSimpArgs false
namespace Go.Proofs.Ytpngojifibakiaa.Sy
open Go Go.RowKit Go.Proofs.YtpngojifibakiaaW.PrintWords
/-- What a predicate on pairs and numbers says on data. -/
noncomputable def pdQ (p : Int × Int → Int → Bool) (k : Lit) (d : DataW Unit) : Bool := @decide (∃ a v, wf2 a ∧ k = kq a ∧ d = i64d v ∧ p a v = true) (Classical.propDecidable _)
theorem pdQ_eq {P : Program} {k : TypeId} (K : Kq P k) (p : Int × Int → Int → Bool) {a : Int × Int} {v : Int} (ha : wf2 a) : pdQ p (kq a) (i64d v) = p a v := by
  unfold pdQ
  cases hp : p a v with
  | true => exact @decide_eq_true _ (Classical.propDecidable _) ⟨a, v, ha, rfl, rfl, hp⟩
  | false =>
    refine @decide_eq_false _ (Classical.propDecidable _) ?_
    rintro ⟨b, w, hb, h1, h2, h3⟩
    have hab : a = b := Classical.byContradiction fun hn => kq_ne K ha hb hn h1
    have hvw : v = w := by simp only [i64d] at h2; injection h2 with e1; injection e1
    rw [← hab, ← hvw, hp] at h3
    cases h3
theorem agq_delf {P : Program} {k : TypeId} (K : Kq P k) {D : DataW Unit} {m : MqS} (hc : Maps.Canon D) (h : Agq D m.2) (p : Int × Int → Int → Bool) : Agq (Lib.deleteFuncD (pdQ p) D) (qdelf m p).2 ∧ Maps.IsMap (Lib.deleteFuncD (pdQ p) D) := by
  obtain ⟨es, rfl, hp, hk⟩ := hc
  have hap := Maps.apart_of_rising hp
  refine ⟨⟨fun a ha hf => ?_, fun a v ha hf => ?_⟩, _, rfl⟩
  · show (es.filter fun q => !pdQ p q.1 q.2).any (fun q => q.1.sameKey (kq a)) = false
    rw [List.any_eq_false]
    intro q hq hs
    rw [List.mem_filter] at hq
    have hqe := same_eq hs
    cases hm : m.2 a with
    | none =>
      have := h.1 a ha hm
      rw [Maps.has_eq, List.any_eq_false] at this
      exact this q hq.1 hs
    | some v =>
      obtain ⟨g1, g2, g3⟩ := h.2 a v ha hm
      have g4 := g3 .nil
      rw [at_find] at g4
      cases hfd : es.find? (fun p => p.1.sameKey (kq a)) with
      | none => rw [List.find?_eq_none] at hfd; exact hfd q hq.1 hs
      | some q' =>
        rw [hfd] at g4
        have hq' := List.mem_of_find?_eq_some hfd
        have hs' := List.find?_some hfd
        obtain rfl := uniq_key hap hq.1 hq' (hqe.trans (same_eq hs').symm)
        have g5 : q.2 = i64d v := g4
        have : p a v = false := by have := hq.2; rw [hqe, g5, pdQ_eq K p ha] at this; simpa using this
        simp [qdelf, hm, this] at hf
  · have hm : m.2 a = some v ∧ p a v = false := by
      simp only [qdelf] at hf
      cases hm : m.2 a with
      | none => rw [hm] at hf; cases hf
      | some w =>
        rw [hm] at hf
        by_cases hpw : p a w
        · simp [hpw] at hf
        · simp [hpw] at hf
          subst hf; exact ⟨rfl, by simpa using hpw⟩
    obtain ⟨g1, g2, g3⟩ := h.2 a v ha hm.1
    have g4 := g3 .nil
    rw [at_find] at g4
    cases hfd : es.find? (fun p => p.1.sameKey (kq a)) with
    | none => rw [hfd] at g4; cases g4
    | some q =>
      rw [hfd] at g4
      have g5 : q.2 = i64d v := g4
      have hq := List.mem_of_find?_eq_some hfd
      have hs := List.find?_some hfd
      have hs : q.1.sameKey (kq a) = true := hs
      have hqe := same_eq hs
      have hkeep : (!pdQ p q.1 q.2) = true := by rw [hqe, g5, pdQ_eq K p ha, hm.2]; rfl
      have hfd2 : (es.filter fun q => !pdQ p q.1 q.2).find? (fun q => q.1.sameKey (kq a)) = some q := by
        cases h2 : (es.filter fun q => !pdQ p q.1 q.2).find? (fun q => q.1.sameKey (kq a)) with
        | none =>
          rw [List.find?_eq_none] at h2
          exact absurd hs (h2 q (List.mem_filter.2 ⟨hq, hkeep⟩))
        | some q' =>
          have m1 := List.mem_of_find?_eq_some h2
          have m2 := List.find?_some h2
          rw [uniq_key hap (List.mem_filter.1 m1).1 hq ((same_eq m2).trans hqe.symm)]
      refine ⟨?_, g2, fun z => ?_⟩
      · show (es.filter fun q => !pdQ p q.1 q.2).any (fun q => q.1.sameKey (kq a)) = true
        rw [List.any_eq_true]
        exact ⟨q, List.mem_filter.2 ⟨hq, hkeep⟩, hs⟩
      · show (DataW.map (es.filter fun q => !pdQ p q.1 q.2)).atKey (kq a) z = _
        rw [at_find, hfd2]; exact g5
/-! #### What the closures say -/
def partB (l : List Int) (a : Int) : Int := if a < 0 then 0 else match at? l a with | some y => if y < 0 then 0 else y | none => 0
def apartB (l : List Int) (a b : Int) : Bool := decide (0 < partB l a) && (decide (0 < partB l b) && !decide (partB l a = partB l b))
theorem part_c (l : List Int) (a : Int) : ((a < 0 ∨ (l.length : Int) ≤ a) ∧ partB l a = 0) ∨ ∃ y, ¬ a < 0 ∧ ¬ (l.length : Int) ≤ a ∧ at? l a = some y ∧ partB l a = (if y < 0 then 0 else y) := by
  unfold partB
  by_cases h0 : a < 0
  · exact .inl ⟨.inl h0, by simp [h0]⟩
  · by_cases h1 : (l.length : Int) ≤ a
    · have : at? l a = none := by unfold at?; rw [if_pos (by omega), List.getElem?_eq_none (by omega)]
      exact .inl ⟨.inr h1, by simp [this]⟩
    · have : ∃ y, at? l a = some y := by unfold at?; rw [if_pos (by omega)]; exact ⟨_, List.getElem?_eq_getElem (by omega)⟩
      obtain ⟨y, hy⟩ := this
      exact .inr ⟨y, h0, h1, hy, by simp [h0, hy]⟩
theorem apart_f (l : List Int) (a b : Int) : forward_Apart.f l a b = some (apartB l a b) := by
  have fin : ∀ x y : Int, (if 0 < x then (if 0 < y then some (!decide (x = y)) else some false) else some false) = some (decide (0 < x) && (decide (0 < y) && !decide (x = y))) := by
    intro x y
    by_cases h1 : 0 < x <;> by_cases h2 : 0 < y <;> simp [h1, h2]
  unfold forward_Apart.f apartB
  simp only [jn]
  rcases part_c l a with ⟨h1, h2⟩ | ⟨y, h1, h2, h3, h4⟩ <;> rcases part_c l b with ⟨g1, g2⟩ | ⟨z, g1, g2, g3, g4⟩
  · rw [h2, g2]
    rcases h1 with h1 | h1 <;> rcases g1 with g1 | g1 <;> simp [h1, g1]
  · rw [h2, g4, ← fin]
    rcases h1 with h1 | h1 <;> simp [h1, g1, g2, g3]
  · rw [h4, g2, ← fin]
    rcases g1 with g1 | g1 <;> simp [g1, h1, h2, h3]
  · rw [h4, g4, ← fin]
    simp [h1, h2, h3, g1, g2, g3]
def setP (r : Int) (k : Int × Int) (v : Int) : Bool := !decide (r = 0) && (decide (k.1 = r) || decide (v = r))
theorem set_f (k : S59) (v r : Int) : forward_known_set_1.f k v r = some (setP r (k.f0, k.f1) v) := by
  unfold forward_known_set_1.f setP
  by_cases h0 : r = 0
  · simp [h0]
  · by_cases h1 : k.f0 = r <;> simp [h0, h1]
def storedP (by_ imm : Int) (l : List Int) (k : Int × Int) : Bool := !(decide (k.1 = by_) && !decide (k.2 = imm)) && !(apartB l k.1 by_)
theorem stored_f (k : S59) (v x0 x1 x2 x3 x4 : Int) (x5 l : List Int) : forward_known_stored_1.f k v x0 x1 x2 x3 x4 x5 l = some (storedP x2 x4 l (k.f0, k.f1)) := by
  unfold forward_known_stored_1.f storedP
  simp only [jn, apart_f, Option.bind_some]
  by_cases h0 : k.f0 = x2 <;> by_cases h1 : k.f1 = x4 <;> simp [h0, h1]
/-! #### The contracts -/
theorem cl_blk {W W' : World} {bd bm : Nat} {cs : List Value} {T : TypeId} (hb : W.heap[bd]? = some (.cells cs.toArray T (0, 0))) (hne : bd ≠ bm) (hg : W.grownBy W' (some bm)) : ∀ q u, cs[q]? = some u → Cl (Gd.all W') ((⟨bd, 0, none⟩ : Addr).add (0 + q)) u := by
  intro q u hu W2 hW2
  have hb' : W'.heap[bd]? = some (.cells cs.toArray T (0, 0)) := (hg.block bd (Array.getElem?_eq_some_iff.1 hb).1 (by intro e; exact hne (Option.some.inj e))).trans hb
  have hb2 : W2.heap[bd]? = some (.cells cs.toArray T (0, 0)) := (hW2 bd (Array.getElem?_eq_some_iff.1 hb').1).trans hb'
  rw [add_blk]
  simp [World.cell?, hb2, hu]
theorem rd_up {α : Type} {G : Gd} {W W' : World} {bm : Nat} {k : Kd α} {A : Option Addr} {l : List α} (hr : Rd G k A l) (hW : G.ok W) (hg : W.grownBy W' (some bm)) (hS : ¬ G.S bm) : Rd (Gd.all W') k A l := fun W2 hW2 => hr W2 (fun j hj => by
  have hlt := hW.lt hj
  have h1 : W'.heap[j]? = W.heap[j]? := hg.block j hlt (by intro e; exact hS (Option.some.inj e ▸ hj))
  have h2 : W2.heap[j]? = W'.heap[j]? := hW2 j (by have := hg.size; show j < W'.heap.size; omega)
  rw [h2, h1]; exact hW j hj)
theorem del_set {G : Gd} {bm bd : Nat} {m : MqS} {dv : Int} : Fn Try.prog 39 G [Mq Try.prog 59 3 bm m, Blk bd [.int .i64 dv] 3] [.map (some bm), .func (.func 41) #[] #[.pointer (some ⟨bd, 0, none⟩)]]
    (fun v G' Lr => G = G' ∧ v = .tuple #[] ∧ Lr = [Mq Try.prog 59 3 bm (qdelf m (fun k v => setP dv k v)), Blk bd [.int .i64 dv] 3]) := fun L W hO => by
  obtain ⟨D, h1, h2, h3⟩ := hO.mq (i := 0) rfl
  have hbd := hO.blk (i := 1) (b := bd) (cs := [.int .i64 dv]) (T := 3) rfl
  have hne : bd ≠ bm := fun e => by
    obtain ⟨es, clock, hb, _⟩ := h1
    rw [e, hb] at hbd; cases hbd
  have hd := del113 (plainElem Try.prog 3) (pdQ (fun k v => setP dv k v)) 41 #[.pointer (some ⟨bd, 0, none⟩)] bm m.1 D W (fun args w => run_callFunc (by kernel_rfl) args w) h1 (fun W' key val kl yd yp hg hkey hv => by
    obtain ⟨a, ha, rfl, rfl⟩ := kq106.inv hkey
    obtain ⟨v, rfl, hz, _⟩ := plainElem_int_inv Try.underlying3 hv
    obtain ⟨rfl, rfl⟩ := Prod.mk.inj hz
    have hF := forward_known_set_1.calls (G := Gd.all W') (a0 := (⟨a.1, a.2⟩ : S59)) (a1 := v) (cl_blk hbd hne hg) (set_f _ _ _)
    refine (hF [] W' (Own.all W')).mono ?_
    rintro e w' ⟨u, G', Lr, rfl, hle, ⟨rfl, rfl, rfl⟩, hO2⟩
    exact ⟨by rw [show (DataW.lit (.int .i64 v) : DataW Unit) = i64d v from rfl, pdQ_eq kq106 _ ha], hO2.os, hO2.tape, hO2.out, hO2.B, fun k hk _ => hO2.ok k hk⟩)
  refine hd.mono ?_
  rintro en W' ⟨rfl, h4, hg⟩
  obtain ⟨h5, h6⟩ := agq_delf kq106 (h1.canon kq106.law) h3 (fun k v => setP dv k v)
  refine ⟨_, G, _, rfl, Gd.le.refl _, ⟨rfl, rfl, rfl⟩, ?_⟩
  exact hO.step 0 rfl rfl hg.os hg.tape hg.output hg.size (fun F hF hh => ⟨⟨.inl hh.1, hh.2.1, _, h4, h6, h5⟩, fun k hk hn => hg.block k hk (fun e => hn (by rw [Option.some.inj e]; exact hh.1))⟩)
theorem del_stored {G : Gd} {bm bx bp : Nat} {m : MqS} {x0 x1 x2 x3 x4 : Int} {x5 l : List Int} {A A5 : Option Addr} {c c5 : Nat} (hr : Rd G (Kd.int .i64) A l) (hl : l.length ≤ c) (hr5 : Rd G (Kd.int .i64) A5 x5) (hl5 : x5.length ≤ c5) : Fn Try.prog 39 G [Mq Try.prog 59 3 bm m, Blk bx [.int .i64 x0, .int .i64 x1, .int .i64 x2, .int .i64 x3, .int .i64 x4, .slice A5 x5.length c5] 37, Blk bp [.slice A l.length c] 25] [.map (some bm), .func (.func 40) #[] #[.pointer (some ⟨bx, 0, none⟩), .pointer (some ⟨bp, 0, none⟩)]]
    (fun v G' Lr => G = G' ∧ v = .tuple #[] ∧ Lr = [Mq Try.prog 59 3 bm (qdelf m (fun k _ => storedP x2 x4 l k)), Blk bx [.int .i64 x0, .int .i64 x1, .int .i64 x2, .int .i64 x3, .int .i64 x4, .slice A5 x5.length c5] 37, Blk bp [.slice A l.length c] 25]) := fun L W hO => by
  obtain ⟨D, h1, h2, h3⟩ := hO.mq (i := 0) rfl
  have hbx := hO.blk (i := 1) (b := bx) (T := 37) rfl
  have hbp := hO.blk (i := 2) (b := bp) (T := 25) rfl
  have hnx : bx ≠ bm := fun e => by
    obtain ⟨es, clock, hb, _⟩ := h1
    rw [e, hb] at hbx; cases hbx
  have hnp : bp ≠ bm := fun e => by
    obtain ⟨es, clock, hb, _⟩ := h1
    rw [e, hb] at hbp; cases hbp
  have hS : ¬ G.S bm := by
    intro hs
    obtain ⟨fp, hfp, _, hc⟩ := hO.mem
    exact (hc 0 bm (hfp 0 _ rfl).1).1 hs
  have hd := del113 (plainElem Try.prog 3) (pdQ (fun k _ => storedP x2 x4 l k)) 40 #[.pointer (some ⟨bx, 0, none⟩), .pointer (some ⟨bp, 0, none⟩)] bm m.1 D W (fun args w => run_callFunc (by kernel_rfl) args w) h1 (fun W' key val kl yd yp hg hkey hv => by
    obtain ⟨a, ha, rfl, rfl⟩ := kq106.inv hkey
    obtain ⟨v, rfl, hz, _⟩ := plainElem_int_inv Try.underlying3 hv
    obtain ⟨rfl, rfl⟩ := Prod.mk.inj hz
    have hF := forward_known_stored_1.calls (G := Gd.all W') (a0 := (⟨a.1, a.2⟩ : S59)) (a1 := v) (rd_up hr5 hO.ok hg hS) hl5 (cl_blk hbx hnx hg) (rd_up hr hO.ok hg hS) hl (cl_blk hbp hnp hg) (stored_f _ _ _ _ _ _ _ _ _)
    refine (hF [] W' (Own.all W')).mono ?_
    rintro e w' ⟨u, G', Lr, rfl, hle, ⟨rfl, rfl, rfl⟩, hO2⟩
    exact ⟨by rw [show (DataW.lit (.int .i64 v) : DataW Unit) = i64d v from rfl, pdQ_eq kq106 _ ha], hO2.os, hO2.tape, hO2.out, hO2.B, fun k hk _ => hO2.ok k hk⟩)
  refine hd.mono ?_
  rintro en W' ⟨rfl, h4, hg⟩
  obtain ⟨h5, h6⟩ := agq_delf kq106 (h1.canon kq106.law) h3 (fun k _ => storedP x2 x4 l k)
  refine ⟨_, G, _, rfl, Gd.le.refl _, ⟨rfl, rfl, rfl⟩, ?_⟩
  exact hO.step 0 rfl rfl hg.os hg.tape hg.output hg.size (fun F hF hh => ⟨⟨.inl hh.1, hh.2.1, _, h4, h6, h5⟩, fun k hk hn => hg.block k hk (fun e => hn (by rw [Option.some.inj e]; exact hh.1))⟩)
end Go.Proofs.Ytpngojifibakiaa.Sy
set_option linter.unusedVariables false
set_option linter.unusedSimpArgs false
set_option maxRecDepth 100000
set_option maxHeartbeats 4000000
namespace Go.Proofs.Ytpngojifibakiaa.Sy
open Go Go.RowKit Go.Proofs.YtpngojifibakiaaW.PrintWords 
/-! #### struct type 37 -/
structure S37 where
 f0:Int
 f1:Int
 f2:Int
 f3:Int
 f4:Int
 f5:(List Int)
def z37:S37:=⟨(0:Int),(0:Int),(0:Int),(0:Int),(0:Int),([]:List Int)⟩
def k37:Kd S37:=Kd.iso (Kd.pair kI (Kd.pair kI (Kd.pair kI (Kd.pair kI (Kd.pair kI (Kd.slice 3 kI)))))) (fun x:S37=>(x.f0,x.f1,x.f2,x.f3,x.f4,x.f5))
theorem k37_open {w:World} {x:S37} {cs:List Value} (h:k37.K w x cs):∃ A5 c5,cs=[VI x.f0,VI x.f1,VI x.f2,VI x.f3,VI x.f4,.slice A5 x.f5.length c5]∧x.f5.length ≤ c5∧kI.C w A5 x.f5.length x.f5:=by
 obtain ⟨_,_,rfl,rfl,⟨_,_,rfl,rfl,⟨_,_,rfl,rfl,⟨_,_,rfl,rfl,⟨_,_,rfl,rfl,⟨A5,c5,rfl,l5,g5⟩⟩⟩⟩⟩⟩:=h
 exact ⟨A5,c5,rfl,l5,g5⟩
theorem k37_mkM (w:World) (base:Nat) (ok:Nat → Prop) (x:S37) {v5:Value} (g5:kI.R 3 w base ok v5 x.f5):k37.M w base ok x [VI x.f0,VI x.f1,VI x.f2,VI x.f3,VI x.f4,v5]:=⟨[VI x.f0],[VI x.f1,VI x.f2,VI x.f3,VI x.f4,v5],rfl,rfl,⟨[VI x.f1],[VI x.f2,VI x.f3,VI x.f4,v5],rfl,rfl,⟨[VI x.f2],[VI x.f3,VI x.f4,v5],rfl,rfl,⟨[VI x.f3],[VI x.f4,v5],rfl,rfl,⟨[VI x.f4],[v5],rfl,rfl,⟨v5,rfl,g5⟩⟩⟩⟩⟩⟩
def rd_T37 (xs:List S37) (i:Int):S37:=xs.getD i.toNat z37
/-! #### struct type 33 -/
structure S33 where
 f0:Int
 f1:Int
 f2:Int
 f3:Int
def z33:S33:=⟨(0:Int),(0:Int),(0:Int),(0:Int)⟩
def k33:Kd S33:=Kd.iso (Kd.pair kI (Kd.pair kI (Kd.pair kI kI))) (fun x:S33=>(x.f0,x.f1,x.f2,x.f3))
theorem k33_open {w:World} {x:S33} {cs:List Value} (h:k33.K w x cs):cs=[VI x.f0,VI x.f1,VI x.f2,VI x.f3]:=by
 obtain ⟨_,_,rfl,rfl,⟨_,_,rfl,rfl,⟨_,_,rfl,rfl,rfl⟩⟩⟩:=h
 exact rfl
theorem k33_mk (w:World) (x:S33) :k33.K w x [VI x.f0,VI x.f1,VI x.f2,VI x.f3]:=⟨[VI x.f0],[VI x.f1,VI x.f2,VI x.f3],rfl,rfl,⟨[VI x.f1],[VI x.f2,VI x.f3],rfl,rfl,⟨[VI x.f2],[VI x.f3],rfl,rfl,rfl⟩⟩⟩
theorem k33_mkM (w:World) (base:Nat) (ok:Nat → Prop) (x:S33) :k33.M w base ok x [VI x.f0,VI x.f1,VI x.f2,VI x.f3]:=⟨[VI x.f0],[VI x.f1,VI x.f2,VI x.f3],rfl,rfl,⟨[VI x.f1],[VI x.f2,VI x.f3],rfl,rfl,⟨[VI x.f2],[VI x.f3],rfl,rfl,rfl⟩⟩⟩
def rd_T33 (xs:List S33) (i:Int):S33:=xs.getD i.toNat z33
/-! #### struct type 35 -/
structure S35 where
 f0:(List S37)
 f1:S33
def z35:S35:=⟨([]:List S37),z33⟩
def k35:Kd S35:=Kd.iso (Kd.pair (Kd.slice 37 k37) k33) (fun x:S35=>(x.f0,x.f1))
theorem k35_open {w:World} {x:S35} {cs:List Value} (h:k35.K w x cs):∃ A0 c0,cs=[.slice A0 x.f0.length c0,VI x.f1.f0,VI x.f1.f1,VI x.f1.f2,VI x.f1.f3]∧x.f0.length ≤ c0∧k37.C w A0 x.f0.length x.f0:=by
 obtain ⟨_,_,rfl,⟨A0,c0,rfl,l0,g0⟩,s1⟩:=h
 obtain rfl:=k33_open s1
 exact ⟨A0,c0,rfl,l0,g0⟩
theorem k35_mk (w:World) (x:S35) {A0:Option Addr} {c0:Nat} (l0:x.f0.length ≤ c0) (g0:k37.C w A0 x.f0.length x.f0):k35.K w x [.slice A0 x.f0.length c0,VI x.f1.f0,VI x.f1.f1,VI x.f1.f2,VI x.f1.f3]:=⟨[.slice A0 x.f0.length c0],[VI x.f1.f0,VI x.f1.f1,VI x.f1.f2,VI x.f1.f3],rfl,⟨A0,c0,rfl,l0,g0⟩,(k33_mk w x.f1 )⟩
theorem k35_mkM (w:World) (base:Nat) (ok:Nat → Prop) (x:S35) {v0:Value} (g0:k37.R 37 w base ok v0 x.f0):k35.M w base ok x [v0,VI x.f1.f0,VI x.f1.f1,VI x.f1.f2,VI x.f1.f3]:=⟨[v0],[VI x.f1.f0,VI x.f1.f1,VI x.f1.f2,VI x.f1.f3],rfl,⟨v0,rfl,g0⟩,(k33_mkM w base ok x.f1 )⟩
def rd_T35 (xs:List S35) (i:Int):S35:=xs.getD i.toNat z35
/-! #### struct type 24 -/
structure S24 where
 f0:Int
 f1:(List S35)
def z24:S24:=⟨(0:Int),([]:List S35)⟩
def k24:Kd S24:=Kd.iso (Kd.pair kI (Kd.slice 35 k35)) (fun x:S24=>(x.f0,x.f1))
theorem k24_open {w:World} {x:S24} {cs:List Value} (h:k24.K w x cs):∃ A1 c1,cs=[VI x.f0,.slice A1 x.f1.length c1]∧x.f1.length ≤ c1∧k35.C w A1 x.f1.length x.f1:=by
 obtain ⟨_,_,rfl,rfl,⟨A1,c1,rfl,l1,g1⟩⟩:=h
 exact ⟨A1,c1,rfl,l1,g1⟩
def rd_T24 (xs:List S24) (i:Int):S24:=xs.getD i.toNat z24
/-! #### struct type 66 -/
structure S66 where
 f0:Bool
 f1:Bool
 f2:Bool
 f3:Bool
def z66:S66:=⟨false,false,false,false⟩
def k66:Kd S66:=Kd.iso (Kd.pair Kd.bool (Kd.pair Kd.bool (Kd.pair Kd.bool Kd.bool))) (fun x:S66=>(x.f0,x.f1,x.f2,x.f3))
def rd_T66 (xs:List S66) (i:Int):S66:=xs.getD i.toNat z66
theorem k35_openR {G:Gd} {x:S35} {cs:List Value} (h:RdK G k35 x cs):∃ A0 c0,cs=[.slice A0 x.f0.length c0,VI x.f1.f0,VI x.f1.f1,VI x.f1.f2,VI x.f1.f3]∧Rd G k37 A0 x.f0∧x.f0.length ≤ c0:=by
 obtain ⟨A0,c0,rfl,l0,g0⟩:=k35_open (h G.W0 G.self)
 exact ⟨A0,c0,rfl,(fun W hW=>by obtain ⟨A0',c0',he,l0',g0'⟩:=k35_open (h W hW); injection (Option.some.inj (congrArg (fun l=>l[0]?) he)) with ha_ _ _; rw [ha_]; exact g0'),l0⟩
theorem k37_openR {G:Gd} {x:S37} {cs:List Value} (h:RdK G k37 x cs):∃ A5 c5,cs=[VI x.f0,VI x.f1,VI x.f2,VI x.f3,VI x.f4,.slice A5 x.f5.length c5]∧Rd G kI A5 x.f5∧x.f5.length ≤ c5:=by
 obtain ⟨A5,c5,rfl,l5,g5⟩:=k37_open (h G.W0 G.self)
 exact ⟨A5,c5,rfl,(fun W hW=>by obtain ⟨A5',c5',he,l5',g5'⟩:=k37_open (h W hW); injection (Option.some.inj (congrArg (fun l=>l[5]?) he)) with ha_ _ _; rw [ha_]; exact g5'),l5⟩
theorem agg4:aggB Try.prog 4=some false:=by kernel_rfl
theorem agg22:aggB Try.prog 22=some false:=by kernel_rfl
theorem agg24:aggB Try.prog 24=some true:=by kernel_rfl
theorem agg31:aggB Try.prog 31=some false:=by kernel_rfl
theorem agg33:aggB Try.prog 33=some true:=by kernel_rfl
theorem agg35:aggB Try.prog 35=some true:=by kernel_rfl
theorem agg37:aggB Try.prog 37=some true:=by kernel_rfl
theorem agg59:aggB Try.prog 59=some true:=by kernel_rfl
theorem agg66:aggB Try.prog 66=some true:=by kernel_rfl
theorem bld24:(match Try.prog.underlying 24 with | some (.struct fs)=>fs.toList.map (fun f=>(Try.prog.info? f.type).map (·.size)) | _=>[])=[1,1].map some:=by kernel_rfl
theorem bld33:(match Try.prog.underlying 33 with | some (.struct fs)=>fs.toList.map (fun f=>(Try.prog.info? f.type).map (·.size)) | _=>[])=[1,1,1,1].map some:=by kernel_rfl
theorem bld35:(match Try.prog.underlying 35 with | some (.struct fs)=>fs.toList.map (fun f=>(Try.prog.info? f.type).map (·.size)) | _=>[])=[1,4].map some:=by kernel_rfl
theorem bld37:(match Try.prog.underlying 37 with | some (.struct fs)=>fs.toList.map (fun f=>(Try.prog.info? f.type).map (·.size)) | _=>[])=[1,1,1,1,1,1].map some:=by kernel_rfl
theorem bld59:(match Try.prog.underlying 59 with | some (.struct fs)=>fs.toList.map (fun f=>(Try.prog.info? f.type).map (·.size)) | _=>[])=[1,1].map some:=by kernel_rfl
theorem bld66:(match Try.prog.underlying 66 with | some (.struct fs)=>fs.toList.map (fun f=>(Try.prog.info? f.type).map (·.size)) | _=>[])=[1,1,1,1].map some:=by kernel_rfl
theorem eqg33:Try.prog.eqGuardType Try.prog.depth 33=false:=by kernel_rfl
theorem eqs33 (d:Nat) (w:World) (x0 y0:Int) (x1 y1:Int) (x2 y2:Int) (x3 y3:Int):(Op.equalIn (d + 2) 33 (.agg #[VI x0,VI x1,VI x2,VI x3]) (.agg #[VI y0,VI y1,VI y2,VI y3])).run Try.prog w=.ok ((x0 == y0) && ((x1 == y1) && ((x2 == y2) && (x3 == y3)))) w:=by
 refine fld_of Try.underlying33 (by kernel_rfl) ?_
 refine fld_cons (by rfl) (by go_simp; rfl) (by go_simp; rfl) (by go_simp) ?_
 refine fld_cons (by rfl) (by go_simp; rfl) (by go_simp; rfl) (by go_simp) ?_
 refine fld_cons (by rfl) (by go_simp; rfl) (by go_simp; rfl) (by go_simp) ?_
 exact fld_last (by rfl) (by go_simp; rfl) (by go_simp; rfl) (by go_simp)
theorem hbd4:hasBody Try.prog 4=true:=by kernel_rfl
theorem hbd5:hasBody Try.prog 5=true:=by kernel_rfl
theorem hbd6:hasBody Try.prog 6=true:=by kernel_rfl
theorem hbd7:hasBody Try.prog 7=true:=by kernel_rfl
theorem hbd8:hasBody Try.prog 8=true:=by kernel_rfl
theorem hbd9:hasBody Try.prog 9=true:=by kernel_rfl
theorem hbd10:hasBody Try.prog 10=true:=by kernel_rfl
theorem hbd11:hasBody Try.prog 11=true:=by kernel_rfl
theorem hbd12:hasBody Try.prog 12=true:=by kernel_rfl
theorem hbd14:hasBody Try.prog 14=true:=by kernel_rfl
theorem hbd15:hasBody Try.prog 15=true:=by kernel_rfl
theorem hbd16:hasBody Try.prog 16=true:=by kernel_rfl
theorem hbd17:hasBody Try.prog 17=true:=by kernel_rfl
theorem hbd18:hasBody Try.prog 18=true:=by kernel_rfl
theorem hbd19:hasBody Try.prog 19=true:=by kernel_rfl
theorem hbd20:hasBody Try.prog 20=true:=by kernel_rfl
theorem hbd21:hasBody Try.prog 21=true:=by kernel_rfl
theorem hbd22:hasBody Try.prog 22=true:=by kernel_rfl
theorem hbd23:hasBody Try.prog 23=true:=by kernel_rfl
theorem hbd25:hasBody Try.prog 25=true:=by kernel_rfl
theorem hbd26:hasBody Try.prog 26=true:=by kernel_rfl
theorem hbd27:hasBody Try.prog 27=true:=by kernel_rfl
theorem hbd28:hasBody Try.prog 28=true:=by kernel_rfl
theorem hbd29:hasBody Try.prog 29=true:=by kernel_rfl
theorem hbd30:hasBody Try.prog 30=true:=by kernel_rfl
theorem hbd31:hasBody Try.prog 31=true:=by kernel_rfl
theorem hbd32:hasBody Try.prog 32=true:=by kernel_rfl
theorem hbd33:hasBody Try.prog 33=true:=by kernel_rfl
theorem hbd34:hasBody Try.prog 34=true:=by kernel_rfl
theorem hbd35:hasBody Try.prog 35=true:=by kernel_rfl
theorem hbd36:hasBody Try.prog 36=true:=by kernel_rfl
theorem hbd37:hasBody Try.prog 37=true:=by kernel_rfl
theorem hbd38:hasBody Try.prog 38=true:=by kernel_rfl
theorem hbd39:hasBody Try.prog 39=true:=by kernel_rfl
theorem inf3:(Try.prog.info? 3).map (fun i=>(i.zero,i.size,i.bytes))=some (some (VI 0),1,8):=by kernel_rfl
theorem inf35:(Try.prog.info? 35).map (fun i=>(i.zero,i.size,i.bytes))=some (some (.agg #[.slice none 0 0,VI 0,VI 0,VI 0,VI 0]),5,56):=by kernel_rfl
theorem inf37:(Try.prog.info? 37).map (fun i=>(i.zero,i.size,i.bytes))=some (some (.agg #[VI 0,VI 0,VI 0,VI 0,VI 0,.slice none 0 0]),6,64):=by kernel_rfl
theorem mixed:Try.prog.follows .mixedOrders=true:=by kernel_rfl
theorem fsz4:(Try.prog.info? 4).map (·.size)=some 1:=by kernel_rfl
theorem fsz22:(Try.prog.info? 22).map (·.size)=some 1:=by kernel_rfl
theorem fsz24:(Try.prog.info? 24).map (·.size)=some 2:=by kernel_rfl
theorem fsz25:(Try.prog.info? 25).map (·.size)=some 1:=by kernel_rfl
theorem fsz31:(Try.prog.info? 31).map (·.size)=some 1:=by kernel_rfl
theorem fsz33:(Try.prog.info? 33).map (·.size)=some 4:=by kernel_rfl
theorem fsz35:(Try.prog.info? 35).map (·.size)=some 5:=by kernel_rfl
theorem fsz37:(Try.prog.info? 37).map (·.size)=some 6:=by kernel_rfl
theorem fsz59:(Try.prog.info? 59).map (·.size)=some 2:=by kernel_rfl
theorem fsz66:(Try.prog.info? 66).map (·.size)=some 4:=by kernel_rfl
theorem zr3:(Try.prog.info? 3).bind (·.zero)=some (VI 0):=by kernel_rfl
theorem zr4:(Try.prog.info? 4).bind (·.zero)=some (.bool false):=by kernel_rfl
theorem zr24:(Try.prog.info? 24).bind (·.zero)=some (.agg #[VI 0,.slice none 0 0]):=by kernel_rfl
theorem zr33:(Try.prog.info? 33).bind (·.zero)=some (.agg #[VI 0,VI 0,VI 0,VI 0]):=by kernel_rfl
theorem zr35:(Try.prog.info? 35).bind (·.zero)=some (.agg #[.slice none 0 0,VI 0,VI 0,VI 0,VI 0]):=by kernel_rfl
theorem zr37:(Try.prog.info? 37).bind (·.zero)=some (.agg #[VI 0,VI 0,VI 0,VI 0,VI 0,.slice none 0 0]):=by kernel_rfl
theorem zr59:(Try.prog.info? 59).bind (·.zero)=some (.agg #[VI 0,VI 0]):=by kernel_rfl
theorem zr66:(Try.prog.info? 66).bind (·.zero)=some (.agg #[.bool false,.bool false,.bool false,.bool false]):=by kernel_rfl
theorem zs3:(Try.prog.info? 3).map (fun i=>(i.zero,i.size))=some (some (VI 0),1):=by kernel_rfl
theorem zs35:(Try.prog.info? 35).map (fun i=>(i.zero,i.size))=some (some (.agg #[.slice none 0 0,VI 0,VI 0,VI 0,VI 0]),5):=by kernel_rfl
theorem zs37:(Try.prog.info? 37).map (fun i=>(i.zero,i.size))=some (some (.agg #[VI 0,VI 0,VI 0,VI 0,VI 0,.slice none 0 0]),6):=by kernel_rfl
end Go.Proofs.Ytpngojifibakiaa.Sy
set_option linter.unusedVariables false
namespace Go.Proofs.Ytpngojifibakiaa.SyO
open Go Go.RowKit Go.Proofs.YtpngojifibakiaaW.PrintWords Go.Proofs.YtpngojifibakiaaW.PrintLast Go.Proofs.YtpngojifibakiaaW.PrintMore
theorem weightsAll_mem {H : Type} {P : Program} {e : TypeId} : ∀ (l : List (DataW H)) (d : DataW H), d ∈ l → ∀ n ∈ d.weights P e, n ∈ DataW.weightsAll P e l
  | x :: r, d, hd, n, hn => by
    simp only [DataW.weightsAll, List.mem_append]
    rcases List.mem_cons.1 hd with rfl | hd
    · exact .inl hn
    · exact .inr (weightsAll_mem r d hd n hn)
/-- What reads as data of this type is an element of this kind. -/
def Opens (b : Nat) {α : Type} (P : Program) (t : TypeId) (d : Kd α) (W : α → Prop) : Prop :=
  P.cellsOf t = d.sz ∧ ∀ (H : Type) (enc : TypeId × Value → H) (w : World) (base : Nat) (held : Bool) (fuel : Nat) (cs : List Value) (x : DataW H × List MemPlace),
    DataW.trod enc P w base (fun _ => true) held fuel t cs = some x → SizeOf.sizeOf x.1 < b → (∀ n ∈ x.1.weights P t, n ≤ reachBytes) → ∃ y, d.K w y cs ∧ W y
variable {P : Program} {t e : TypeId} {b : Nat}
theorem agg_lt {H : Type} {ds : List (DataW H)} {d : DataW H} (h : d ∈ ds) : SizeOf.sizeOf d < SizeOf.sizeOf (DataW.agg ds) := by
  have := List.sizeOf_lt_of_mem h
  simp only [DataW.agg.sizeOf_spec]; omega
theorem slice_lt {H : Type} {ds sp : List (DataW H)} {d : DataW H} (h : d ∈ ds) : SizeOf.sizeOf d < SizeOf.sizeOf (DataW.slice ds sp) := by
  have := List.sizeOf_lt_of_mem h
  simp only [DataW.slice.sizeOf_spec]; omega
theorem Opens.int {k : IntKind} (ht : P.underlying t = some (.int k)) (hc : P.cellsOf t = 1) : Opens b P t (Kd.int k) (fun n => (Lit.int k n).wf = true) :=
  ⟨hc, fun H enc w base held fuel cs x h hb0 hz => by
    obtain ⟨n, rfl, _, hw⟩ := DataW.trod_int ht h
    exact ⟨n, rfl, hw⟩⟩
theorem Opens.bool (ht : P.underlying t = some .bool) (hc : P.cellsOf t = 1) : Opens b P t Kd.bool (fun _ => True) :=
  ⟨hc, fun H enc w base held fuel cs x h hb0 hz => by
    obtain ⟨n, rfl, _⟩ := DataW.trod_bool ht h
    exact ⟨n, rfl, trivial⟩⟩
theorem Opens.string (ht : P.underlying t = some .string) (hc : P.cellsOf t = 1) : Opens b P t Kd.string (fun s => s.size ≤ maxLen) :=
  ⟨hc, fun H enc w base held fuel cs x h hb0 hz => by
    obtain ⟨s, rfl, _, hw⟩ := DataW.trod_string ht h
    exact ⟨s, rfl, hw⟩⟩
theorem Opens.slice {α : Type} {d : Kd α} {W : α → Prop} (ht : P.underlying t = some (.slice e)) (hc : P.cellsOf t = 1) (he : Opens b P e d W) :
    Opens (b + 1) P t (Kd.slice e d) (fun l => l.length ≤ maxLen ∧ l.length * P.bytesOf e ≤ reachBytes ∧ ∀ y ∈ l, W y) :=
  ⟨hc, fun H enc w base held fuel cs x h hb0 hz => by
    rcases Go.Deep.open_slice ht h with ⟨rfl, _⟩ | ⟨a, len, cap, m, n, D, Pl, rfl, hb, hl, hm, hme, rfl, hall⟩
    · refine ⟨[], ⟨none, 0, rfl, Nat.le_refl _, rfl, Nat.zero_le _, fun h => absurd h (by simp)⟩, by simp, by simp⟩
    · simp only [if_true] at hme
      subst hme
      have h1 : ∀ i : Fin len, ∃ y : α, ∃ cs', w.cells? base (a.add (i.1 * P.cellsOf e)) (P.cellsOf e) = some cs' ∧ d.K w y cs' ∧ W y := by
        intro i
        obtain ⟨cs', hcs, htr⟩ := hall i.1 (by have := i.2; omega)
        obtain ⟨y, hy, hW⟩ := he.2 H enc w base held n cs' _ htr (by have := slice_lt (sp := (List.range (m - len)).map fun j => D (len + j)) (List.mem_map.2 ⟨i.1, List.mem_range.2 i.2, rfl⟩ : D i.1 ∈ (List.range len).map D); simp only at hb0 ⊢; omega) (fun q hq => hz q (by
          simp only [DataW.weights, ht]
          refine List.mem_cons_of_mem _ (List.mem_append_left _ (weightsAll_mem _ (D i.1) ?_ q hq))
          exact List.mem_map.2 ⟨i.1, List.mem_range.2 i.2, rfl⟩))
        exact ⟨y, cs', hcs, hy, hW⟩
      obtain ⟨Y, hY⟩ := Classical.axiomOfChoice h1
      have hlen : (List.ofFn Y).length = len := by simp
      have hmx : maxLen = 9223372036854775807 := by decide
      refine ⟨List.ofFn Y, ⟨some a, _, by rw [hlen], by rw [hlen]; exact hl, rfl, by rw [hlen]; omega, fun _ => ⟨a, rfl, ?_⟩⟩, by rw [hlen]; omega, ?_, ?_⟩
      · intro j p hj
        obtain ⟨hjl, rfl⟩ := List.getElem?_eq_some_iff.1 hj
        rw [hlen] at hjl
        obtain ⟨cs', hcs, hK, _⟩ := hY ⟨j, hjl⟩
        obtain ⟨_, hln, hcell⟩ := World.cells?_some hcs
        refine ⟨cs', d.K_len hK, by rw [List.getElem_ofFn]; exact hK, ?_⟩
        intro i u hu
        have hi : i < cs'.length := (List.getElem?_eq_some_iff.1 hu).1
        rw [← he.1]
        have := hcell i (by omega)
        rw [hu, Addr.add_add] at this
        exact this
      · have h9 := hz ((len + (m - len)) * P.bytesOf e) (by simp [DataW.weights, ht])
        rw [hlen]
        exact Nat.le_trans (Nat.mul_le_mul_right _ (by omega)) h9
      · intro y hy
        obtain ⟨i, rfl⟩ := List.mem_ofFn.1 hy
        obtain ⟨_, _, _, hW⟩ := hY i
        exact hW⟩
/-- The fields of a struct, from one on. -/
def OpensF (b : Nat) {α : Type} (P : Program) (fs : List Field) (off : Nat) (d : Kd α) (W : α → Prop) : Prop :=
  (∀ f ∈ fs, off ≤ f.offset) ∧ ∀ (H : Type) (enc : TypeId × Value → H) (w : World) (base : Nat) (held : Bool) (fuel : Nat) (cs : List Value), cs.length = d.sz →
    (∀ f ∈ fs, ∃ x, DataW.trod enc P w base (fun _ => true) held fuel f.type ((cs.drop (f.offset - off)).take (P.cellsOf f.type)) = some x ∧ SizeOf.sizeOf x.1 < b ∧ ∀ n ∈ x.1.weights P f.type, n ≤ reachBytes) → ∃ y, d.K w y cs ∧ W y
theorem OpensF.one {α : Type} {d : Kd α} {W : α → Prop} {f : Field} (h : Opens b P f.type d W) : OpensF b P [f] f.offset d W :=
  ⟨by simp, fun H enc w base held fuel cs hcs hx => by
    obtain ⟨x, hx, hb0, hz⟩ := hx f (List.mem_singleton_self _)
    rw [Nat.sub_self, List.drop_zero, h.1, List.take_of_length_le (by omega)] at hx
    exact h.2 H enc w base held fuel cs x hx hb0 hz⟩
theorem OpensF.cons {α β : Type} {d : Kd α} {W : α → Prop} {d' : Kd β} {W' : β → Prop} {f : Field} {fs : List Field} {off : Nat} (h : Opens b P f.type d W) (hoff : off = f.offset + d.sz) (h' : OpensF b P fs off d' W') :
    OpensF b P (f :: fs) f.offset (Kd.pair d d') (fun x => W x.1 ∧ W' x.2) :=
  ⟨fun g hg => by
    rcases List.mem_cons.1 hg with rfl | hg
    · exact Nat.le_refl _
    · have := h'.1 g hg; omega,
   fun H enc w base held fuel cs hcs hx => by
    have hcs' : cs.length = d.sz + d'.sz := hcs
    obtain ⟨x, hx0, hb0, hz0⟩ := hx f List.mem_cons_self
    rw [Nat.sub_self, List.drop_zero, h.1] at hx0
    obtain ⟨y, hy, hW⟩ := h.2 H enc w base held fuel _ x hx0 hb0 hz0
    obtain ⟨y', hy', hW'⟩ := h'.2 H enc w base held fuel (cs.drop d.sz) (by rw [List.length_drop]; omega) (fun g hg => by
      obtain ⟨x, hx1, hb1, hz1⟩ := hx g (List.mem_cons_of_mem _ hg)
      have := h'.1 g hg
      refine ⟨x, ?_, hb1, hz1⟩
      rw [List.drop_drop, show d.sz + (g.offset - off) = g.offset - f.offset from by omega]
      exact hx1)
    exact ⟨(y, y'), ⟨cs.take d.sz, cs.drop d.sz, (List.take_append_drop _ _).symm, hy, hy'⟩, hW, hW'⟩⟩
theorem Opens.struct {α β : Type} {d : Kd α} {W : α → Prop} {fs : Array Field} (ht : P.underlying t = some (.struct fs)) (hc : P.cellsOf t = d.sz) (h : OpensF b P fs.toList 0 d W) (g : β → α) (g' : α → β) (hg : ∀ a, g (g' a) = a) :
    Opens (b + 1) P t (Kd.iso d g) (fun b => W (g b)) :=
  ⟨hc, fun H enc w base held fuel cs x hx hb0 hz => by
    obtain ⟨xs, n, _, rfl, hln, hxl, hall⟩ := DataW.trod_struct ht hx
    obtain ⟨y, hy, hW⟩ := h.2 H enc w base held n cs (by rw [hln, hc]) (fun f hf => by
      obtain ⟨i, hi⟩ := List.getElem?_of_mem hf
      have hi' : fs[i]? = some f := by simpa using hi
      have := hall i f hi'
      have hil : i < xs.length := by rw [hxl]; exact (Array.getElem?_eq_some_iff.1 hi').1
      rw [List.getElem?_eq_getElem hil] at this
      refine ⟨_, by rw [Nat.sub_zero]; exact this, by have h7 := agg_lt (List.mem_map.2 ⟨xs[i], List.getElem_mem hil, rfl⟩ : xs[i].1 ∈ xs.map (·.1)); simp only at hb0 ⊢; omega, fun q hq => hz q ?_⟩
      simp only [DataW.weights, ht]
      exact DataW.weights_mem_each (j := i) (t := f.type) (d := xs[i].1) (by simp [hi']) (by simp [List.getElem?_eq_getElem hil]) q hq)
    exact ⟨g' y, by show d.K w (g (g' y)) cs; rw [hg]; exact hy, by show W (g (g' y)); rw [hg]; exact hW⟩⟩
theorem Opens.mono {α : Type} {d : Kd α} {W W' : α → Prop} (h : Opens b P t d W) (hw : ∀ y, W y → W' y) : Opens b P t d W' :=
  ⟨h.1, fun H enc w base held fuel cs x hx hb0 hz => by
    obtain ⟨y, hy, hW⟩ := h.2 H enc w base held fuel cs x hx hb0 hz
    exact ⟨y, hy, hw y hW⟩⟩
theorem Opens.le {α : Type} {d : Kd α} {W : α → Prop} {b' : Nat} (h : Opens b' P t d W) (hb : b ≤ b') : Opens b P t d W :=
  ⟨h.1, fun H enc w base held fuel cs x hx hb0 hz => h.2 H enc w base held fuel cs x hx (Nat.lt_of_lt_of_le hb0 hb) hz⟩
/-- A kind of its own kind: level by level. -/
def upW {α : Type} (F : (α → Prop) → α → Prop) : Nat → α → Prop
  | 0, _ => False
  | n + 1, x => F (upW F n) x
end Go.Proofs.Ytpngojifibakiaa.SyO
set_option linter.unusedVariables false
set_option maxRecDepth 100000
namespace Go.Proofs.Ytpngojifibakiaa.Sy
open Go Go.RowKit Go.Proofs.YtpngojifibakiaaW.PrintWords Go.Proofs.Ytpngojifibakiaa.SyO 
theorem bytes25 : Try.prog.bytesOf 3 = 8 := by kernel_rfl
theorem bytes31 : Try.prog.bytesOf 37 = 64 := by kernel_rfl
theorem bytes22 : Try.prog.bytesOf 35 = 56 := by kernel_rfl
abbrev ok37 (x : S37) : Prop := (Lit.int .i64 x.f0).wf = true ∧ (Lit.int .i64 x.f1).wf = true ∧ (Lit.int .i64 x.f2).wf = true ∧ (Lit.int .i64 x.f3).wf = true ∧ (Lit.int .i64 x.f4).wf = true ∧ (x.f5.length * 8 ≤ 140737488351232 ∧ ∀ y ∈ x.f5, (Lit.int .i64 y).wf = true)
theorem opens37 (b : Nat) : Opens b Try.prog 37 k37 ok37 := (Opens.struct Try.underlying37 (by kernel_rfl) (OpensF.cons (Opens.int Try.underlying3 (by kernel_rfl)) rfl (OpensF.cons (Opens.int Try.underlying3 (by kernel_rfl)) rfl (OpensF.cons (Opens.int Try.underlying3 (by kernel_rfl)) rfl (OpensF.cons (Opens.int Try.underlying3 (by kernel_rfl)) rfl (OpensF.cons (Opens.int Try.underlying3 (by kernel_rfl)) rfl (OpensF.one (((Opens.slice Try.underlying25 (by kernel_rfl) (Opens.int Try.underlying3 (by kernel_rfl))).le (Nat.le_succ _)).mono (W' := fun (l : (List Int)) => (l.length * 8 ≤ 140737488351232 ∧ ∀ y ∈ l, (Lit.int .i64 y).wf = true)) (fun l h => ⟨by have h2 := h.2.1; rw [bytes25] at h2; exact h2, h.2.2⟩)))))))) (fun x : S37 => (x.f0, x.f1, x.f2, x.f3, x.f4, x.f5)) (fun y => ⟨y.1, y.2.1, y.2.2.1, y.2.2.2.1, y.2.2.2.2.1, y.2.2.2.2.2⟩) (fun _ => rfl)).le (Nat.le_succ _)
theorem ho37 : HO k37 := HO.iso (HO.pair HO.int (HO.pair HO.int (HO.pair HO.int (HO.pair HO.int (HO.pair HO.int (HO.slice HO.int))))))
abbrev ok33 (x : S33) : Prop := (Lit.int .i64 x.f0).wf = true ∧ (Lit.int .i64 x.f1).wf = true ∧ (Lit.int .i64 x.f2).wf = true ∧ (Lit.int .i64 x.f3).wf = true
theorem opens33 (b : Nat) : Opens b Try.prog 33 k33 ok33 := (Opens.struct Try.underlying33 (by kernel_rfl) (OpensF.cons (Opens.int Try.underlying3 (by kernel_rfl)) rfl (OpensF.cons (Opens.int Try.underlying3 (by kernel_rfl)) rfl (OpensF.cons (Opens.int Try.underlying3 (by kernel_rfl)) rfl (OpensF.one (Opens.int Try.underlying3 (by kernel_rfl)))))) (fun x : S33 => (x.f0, x.f1, x.f2, x.f3)) (fun y => ⟨y.1, y.2.1, y.2.2.1, y.2.2.2⟩) (fun _ => rfl)).le (Nat.le_succ _)
theorem ho33 : HO k33 := HO.iso (HO.pair HO.int (HO.pair HO.int (HO.pair HO.int HO.int)))
abbrev ok35 (x : S35) : Prop := (x.f0.length * 64 ≤ 140737488351232 ∧ ∀ y ∈ x.f0, ok37 y) ∧ ok33 x.f1
theorem opens35 (b : Nat) : Opens b Try.prog 35 k35 ok35 := (Opens.struct Try.underlying35 (by kernel_rfl) (OpensF.cons (((Opens.slice Try.underlying31 (by kernel_rfl) (opens37 b)).le (Nat.le_succ _)).mono (W' := fun (l : (List S37)) => (l.length * 64 ≤ 140737488351232 ∧ ∀ y ∈ l, ok37 y)) (fun l h => ⟨by have h2 := h.2.1; rw [bytes31] at h2; exact h2, h.2.2⟩)) rfl (OpensF.one (opens33 b))) (fun x : S35 => (x.f0, x.f1)) (fun y => ⟨y.1, y.2⟩) (fun _ => rfl)).le (Nat.le_succ _)
theorem ho35 : HO k35 := HO.iso (HO.pair (HO.slice ho37) ho33)
abbrev ok24 (x : S24) : Prop := (Lit.int .i64 x.f0).wf = true ∧ (x.f1.length * 56 ≤ 140737488351232 ∧ ∀ y ∈ x.f1, ok35 y)
theorem opens24 (b : Nat) : Opens b Try.prog 24 k24 ok24 := (Opens.struct Try.underlying24 (by kernel_rfl) (OpensF.cons (Opens.int Try.underlying3 (by kernel_rfl)) rfl (OpensF.one (((Opens.slice Try.underlying22 (by kernel_rfl) (opens35 b)).le (Nat.le_succ _)).mono (W' := fun (l : (List S35)) => (l.length * 56 ≤ 140737488351232 ∧ ∀ y ∈ l, ok35 y)) (fun l h => ⟨by have h2 := h.2.1; rw [bytes22] at h2; exact h2, h.2.2⟩)))) (fun x : S24 => (x.f0, x.f1)) (fun y => ⟨y.1, y.2⟩) (fun _ => rfl)).le (Nat.le_succ _)
end Go.Proofs.Ytpngojifibakiaa.Sy
set_option linter.unusedVariables false
set_option linter.unusedSimpArgs false
set_option maxRecDepth 100000
set_option maxHeartbeats 4000000
namespace Go.Proofs.Ytpngojifibakiaa.Sy
open Go Go.RowKit Go.Proofs.YtpngojifibakiaaW.PrintWords 
def swagelaw14_Few.l1 (a0:S24) (x819:Int):Nat → Int → Option (Sum (Sum Bool (Int)) (Unit))
 | 0,_=>none
 | n2226 + 1,x2132=>jn (γ:=(Sum (Sum Bool (Int)) (Unit))) (fun (x2335:Bool)=>(if x2335=true then (at? a0.f1 x819).bind fun y2367=>(at? y2367.f0 x2132).bind fun y2380=>(if 20 < (y2380.f5.length:Int) then some (.inl (.inl false)) else swagelaw14_Few.l1 a0 x819 n2226 (IntKind.i64.wrap (x2132 + 1))) else some (.inr ()))) (fun (j2336:(Bool → Option (Sum (Sum Bool (Int)) (Unit))))=>(at? a0.f1 x819).bind fun y2395=>(if x2132 < (y2395.f0.length:Int) then j2336 (decide (x2132 < 300)) else j2336 false))
def swagelaw14_Few.l0 (a0:S24):Nat → Int → Int → Option (Sum Bool (Int))
 | 0,_,_=>none
 | n1227 + 1,x818,x819=>jn (γ:=(Sum Bool (Int))) (fun (x1642:Bool)=>(if x1642=true then (at? a0.f1 x819).bind fun y1934=>(swagelaw14_Few.l1 a0 x819 ((at? a0.f1 x819).elim 0 (fun vy2227=>vy2227.f0.length) + 1) 0).bind fun | .inl q_=>some q_ | .inr _=>(swagelaw14_Few.l0 a0 n1227 (IntKind.i64.wrap (x818 + (y1934.f0.length:Int))) (IntKind.i64.wrap (x819 + 1))) else some (.inr x818))) (fun (j1643:(Bool → Option (Sum Bool (Int))))=>(if x819 < (a0.f1.length:Int) then j1643 (decide (x819 < 100)) else j1643 false))
def swagelaw14_Few.f (a0:S24):Option Bool:=(swagelaw14_Few.l0 a0 (a0.f1.length + 1) 0 0).bind fun | .inl q_=>some q_ | .inr x1225=>(if (a0.f1.length:Int) ≤ 40 then some (decide (x1225 ≤ 250)) else some false)
def swagelaw14_Few.post (G:Gd)  (r:Bool) (v:Value) (G':Gd) (Lr:List Ch):Prop:=G=G'∧v=.bool r∧Lr=[]
theorem swagelaw14_Few.calls {G:Gd} {r:Bool} {a0:S24} {A1:Option Addr} {c2:Nat} (hr3:Rd G k35 A1 a0.f1) (hl4:a0.f1.length ≤ c2) (h:swagelaw14_Few.f a0=some r):Fn Try.prog 5 G [] [.agg #[VI a0.f0,.slice A1 a0.f1.length c2]] (swagelaw14_Few.post G  r):=by
 refine Fn.intro (e:=[(0,.agg #[VI a0.f0,.slice A1 a0.f1.length c2])]) 61 Try.func5 rfl Try.ntmps5 rfl rfl (Nat.le_of_ble_eq_true rfl) (fun L=>?_)
 unfold swagelaw14_Few.f at h
 refine TC.seq ?_
 refine TC.region ?_
 refine TL.cons (TL.box (cs:=[VI a0.f0,.slice A1 a0.f1.length c2]) rfl rfl rfl rfl (fun b5=>?_))
 refine TV rfl rfl rfl (Val.assign rfl) ?_
 refine TL.nil ?_
 refine TQ.then_ ?_
 refine TC.seq ?_
 refine TC.region ?_
 refine TV rfl rfl rfl (Val.assign rfl) ?_
 refine TL.nil ?_
 refine TQ.then_ ?_
 refine TC.seq ?_
 refine TC.seq ?_
 refine TC.region ?_
 refine TV rfl rfl rfl (Val.assign rfl) ?_
 refine TL.nil ?_
 refine TQ.then_ ?_
 obtain ⟨o1226,ho1226,ko1226⟩:=bind_no h
 clear h
 refine TC.tail (fun a W=>∃ (x1225:Int),(.inr x1225)=o1226∧Fr 61 a [(1,VP b5 0),(3,VI x1225)]∧Own G (Blk b5 [VI a0.f0,.slice A1 a0.f1.length c2] 24::L) W) ?_ ?_
 ·
  rintro a W ⟨x1225,rfl,hF,hO⟩
  have h:=ko1226
  clear ko1226 ho1226
  refine TQ.use ?_ hF hO
  clear hF hO
  refine TQ.then_ ?_
  refine TC.seq ?_
  refine TC.region ?_
  refine TV rfl rfl rfl (Val.fieldAddrB Try.underlying24 rfl fsz22 rfl rfl rfl) ?_
  refine TV rfl rfl rfl (Val.loadB 0 agg22 rfl rfl rfl) ?_
  refine TV rfl rfl rfl (Val.len Try.underlying22 rfl) ?_
  refine TV rfl rfl rfl (Val.cmp rfl rfl run_leq) ?_
  refine TV rfl rfl rfl (Val.move rfl) ?_
  refine TK.split (p:=(a0.f1.length:Int) ≤ 40) h (fun hg1636 h=>?_) (fun hg1636 h=>?_)
  ·
   have hk1637:decide ((a0.f1.length:Int) ≤ 40)=true:=decide_eq_true hg1636
   refine TV (Wt.yes rfl rfl rfl hk1637) rfl rfl (Val.move rfl) ?_
   refine TV (Wt.yes rfl rfl rfl hk1637) rfl rfl (Val.cmp rfl rfl run_leq) ?_
   refine TV rfl rfl rfl (Val.pickY rfl hk1637 rfl) ?_
   refine TV rfl rfl rfl (Val.assign rfl) ?_
   refine TL.nil ?_
   refine TQ.then_ ?_
   refine TC.ret ?_
   obtain rfl:=Option.some.inj h
   exact TQ.fin (.inl rfl) rfl Try.results5 (.tmp rfl .nil) rfl (FRel.mk (Ls:=[]) [] 1 (Gd.le.refl _) rfl rfl rfl ⟨rfl,rfl,rfl⟩)
  ·
   have hk1638:decide ((a0.f1.length:Int) ≤ 40)=false:=decide_eq_false hg1636
   refine TL.cons (TL.not (Wt.no rfl rfl rfl hk1638) rfl ?_)
   refine TL.cons (TL.not (Wt.no rfl rfl rfl hk1638) rfl ?_)
   refine TV rfl rfl rfl (Val.pickN rfl hk1638 rfl) ?_
   refine TV rfl rfl rfl (Val.assign rfl) ?_
   refine TL.nil ?_
   refine TQ.then_ ?_
   refine TC.ret ?_
   obtain rfl:=Option.some.inj h
   exact TQ.fin (.inl rfl) rfl Try.results5 (.tmp rfl .nil) rfl (FRel.mk (Ls:=[]) [] 1 (Gd.le.refl _) rfl rfl rfl ⟨rfl,rfl,rfl⟩)
 ·
  refine TC.block ?_
  intro a W hF hO
  have hS:∃ (x818:Int) (x819:Int),swagelaw14_Few.l0 a0 (a0.f1.length + 1) x818 x819=some o1226∧Fr 61 a [(1,VP b5 0),(3,VI x818),(4,VI x819)]∧Own G (Blk b5 [VI a0.f0,.slice A1 a0.f1.length c2] 24::L) W:=by
   exact ⟨0,0,ho1226,hF.sub ⟨rfl,rfl,rfl,trivial⟩,hO.selT (Ls:=[Blk b5 [VI a0.f0,.slice A1 a0.f1.length c2] 24]) [0] 1 rfl rfl rfl⟩
  clear hF hO ho1226
  refine TC.loop (fun n1227 a W=>∃ (x818:Int) (x819:Int),swagelaw14_Few.l0 a0 n1227 x818 x819=some o1226∧Fr 61 a [(1,VP b5 0),(3,VI x818),(4,VI x819)]∧Own G (Blk b5 [VI a0.f0,.slice A1 a0.f1.length c2] 24::L) W) ?_ ?_ hS
  ·
   rintro a W ⟨x818,x819,h,hF,hO⟩
   exact none_no h
  ·
   clear hS
   rintro n1227 a W ⟨x818,x819,h,hF,hO⟩
   rw [swagelaw14_Few.l0] at h
   refine TC.use ?_ hF hO
   clear hF hO
   refine TC.seq ?_
   refine TC.seq ?_
   obtain ⟨j1643,hj1643,h⟩:=jn_no h
   refine TC.tail (fun a W=>∃ (x1642:Bool),j1643 x1642=some o1226∧Fr 61 a [(1,VP b5 0),(3,VI x818),(4,VI x819),(14,.bool x1642)]∧Own G (Blk b5 [VI a0.f0,.slice A1 a0.f1.length c2] 24::L) W) ?_ ?_
   ·
    rintro a W ⟨x1642,h,hF,hO⟩
    rw [hj1643] at h
    refine TQ.use ?_ hF hO
    clear hF hO
    refine TQ.then_ ?_
    refine TC.cond_b rfl h (fun hc1645 h=>?_) (fun hc1645 h=>?_)
    ·
     refine TC.skip ?_
     refine TQ.then_ ?_
     refine TC.seq ?_
     refine TC.block ?_
     refine TC.seq ?_
     refine TC.region ?_
     refine TV rfl rfl rfl (Val.move rfl) ?_
     refine TV rfl rfl rfl (Val.fieldAddrB Try.underlying24 rfl fsz22 rfl rfl rfl) ?_
     refine TV rfl rfl rfl (Val.loadB 0 agg22 rfl rfl rfl) ?_
     refine TV rfl rfl rfl (Val.move rfl) ?_
     obtain ⟨y1934,hx1935,h⟩:=bind_no h
     obtain ⟨ad1936,cs1942,hA1937,hi1938,hj1939,hcl1940,hK1941⟩:=Rd.at hr3 hx1935
     obtain ⟨A1943,c1944,rfl,hr1945,hl1946⟩:=k35_openR hK1941
     refine TV rfl rfl rfl (Val.indexAddr Try.underlying22 fsz35 rfl hA1937 rfl hi1938 hj1939) ?_
     refine TV rfl rfl rfl (Val.fieldAddrE Try.underlying35 rfl fsz31 rfl rfl) ?_
     refine TV rfl rfl rfl (Val.loadS agg31 rfl (hcl1940 0 _ rfl)) ?_
     refine TV rfl rfl rfl (Val.len Try.underlying31 rfl) ?_
     refine TV rfl rfl rfl (Val.cmp rfl rfl run_add) ?_
     refine TV rfl rfl rfl (Val.assign rfl) ?_
     refine TL.nil ?_
     refine TQ.then_ ?_
     refine TC.seq ?_
     refine TC.region ?_
     refine TV rfl rfl rfl (Val.assign rfl) ?_
     refine TL.nil ?_
     refine TQ.then_ ?_
     obtain ⟨o2225,ho2225,ko2225⟩:=bind_no h
     clear h
     refine TC.tail (fun a W=>(.inr ())=o2225∧Fr 61 a [(1,VP b5 0),(3,VI (IntKind.i64.wrap (x818 + (y1934.f0.length:Int)))),(4,VI x819)]∧Own G (Blk b5 [VI a0.f0,.slice A1 a0.f1.length c2] 24::L) W) ?_ ?_
     ·
      rintro a W ⟨rfl,hF,hO⟩
      have h:=ko2225
      clear ko2225 ho2225
      refine TQ.use ?_ hF hO
      clear hF hO
      refine TQ.inB ?_
      refine TQ.then_ ?_
      refine TC.region ?_
      refine TV rfl rfl rfl (Val.move rfl) ?_
      refine TV rfl rfl rfl (Val.cmp rfl rfl run_add) ?_
      refine TV rfl rfl rfl (Val.assign rfl) ?_
      refine TL.nil ?_
      exact fun a W hF hO=>⟨IntKind.i64.wrap (x818 + (y1934.f0.length:Int)),IntKind.i64.wrap (x819 + 1),h,hF.sub ⟨rfl,rfl,rfl,trivial⟩,hO.selT (Ls:=[Blk b5 [VI a0.f0,.slice A1 a0.f1.length c2] 24]) [0] 1 rfl rfl rfl⟩
     ·
      refine TC.block ?_
      intro a W hF hO
      have hS:∃ (x2132:Int),swagelaw14_Few.l1 a0 x819 ((at? a0.f1 x819).elim 0 (fun vy2227=>vy2227.f0.length) + 1) x2132=some o2225∧Fr 61 a [(1,VP b5 0),(3,VI (IntKind.i64.wrap (x818 + (y1934.f0.length:Int)))),(4,VI x819),(5,VI x2132)]∧Own G (Blk b5 [VI a0.f0,.slice A1 a0.f1.length c2] 24::L) W:=by
       exact ⟨0,ho2225,hF.sub ⟨rfl,rfl,rfl,rfl,trivial⟩,hO.selT (Ls:=[Blk b5 [VI a0.f0,.slice A1 a0.f1.length c2] 24]) [0] 1 rfl rfl rfl⟩
      clear hF hO ho2225
      refine TC.loop (fun n2226 a W=>∃ (x2132:Int),swagelaw14_Few.l1 a0 x819 n2226 x2132=some o2225∧Fr 61 a [(1,VP b5 0),(3,VI (IntKind.i64.wrap (x818 + (y1934.f0.length:Int)))),(4,VI x819),(5,VI x2132)]∧Own G (Blk b5 [VI a0.f0,.slice A1 a0.f1.length c2] 24::L) W) ?_ ?_ hS
      ·
       rintro a W ⟨x2132,h,hF,hO⟩
       exact none_no h
      ·
       clear hS
       rintro n2226 a W ⟨x2132,h,hF,hO⟩
       rw [swagelaw14_Few.l1] at h
       refine TC.use ?_ hF hO
       clear hF hO
       refine TC.seq ?_
       refine TC.seq ?_
       obtain ⟨j2336,hj2336,h⟩:=jn_no h
       refine TC.tail (fun a W=>∃ (x2335:Bool),j2336 x2335=some o2225∧Fr 61 a [(1,VP b5 0),(3,VI (IntKind.i64.wrap (x818 + (y1934.f0.length:Int)))),(4,VI x819),(5,VI x2132),(38,.bool x2335)]∧Own G (Blk b5 [VI a0.f0,.slice A1 a0.f1.length c2] 24::L) W) ?_ ?_
       ·
        rintro a W ⟨x2335,h,hF,hO⟩
        rw [hj2336] at h
        refine TQ.use ?_ hF hO
        clear hF hO
        refine TQ.then_ ?_
        refine TC.cond_b rfl h (fun hc2338 h=>?_) (fun hc2338 h=>?_)
        ·
         refine TC.skip ?_
         refine TQ.then_ ?_
         refine TC.seq ?_
         refine TC.block ?_
         refine TC.seq ?_
         refine TC.region ?_
         refine TV rfl rfl rfl (Val.fieldAddrB Try.underlying24 rfl fsz22 rfl rfl rfl) ?_
         refine TV rfl rfl rfl (Val.loadB 0 agg22 rfl rfl rfl) ?_
         refine TV rfl rfl rfl (Val.move rfl) ?_
         obtain ⟨y2367,hx2368,h⟩:=bind_no h
         obtain ⟨ad2369,cs2375,hA2370,hi2371,hj2372,hcl2373,hK2374⟩:=Rd.at hr3 hx2368
         obtain ⟨A2376,c2377,rfl,hr2378,hl2379⟩:=k35_openR hK2374
         refine TV rfl rfl rfl (Val.indexAddr Try.underlying22 fsz35 rfl hA2370 rfl hi2371 hj2372) ?_
         refine TV rfl rfl rfl (Val.fieldAddrE Try.underlying35 rfl fsz31 rfl rfl) ?_
         refine TV rfl rfl rfl (Val.loadS agg31 rfl (hcl2373 0 _ rfl)) ?_
         refine TV rfl rfl rfl (Val.move rfl) ?_
         obtain ⟨y2380,hx2381,h⟩:=bind_no h
         obtain ⟨ad2382,cs2388,hA2383,hi2384,hj2385,hcl2386,hK2387⟩:=Rd.at hr2378 hx2381
         obtain ⟨A2389,c2390,rfl,hr2391,hl2392⟩:=k37_openR hK2387
         refine TV rfl rfl rfl (Val.indexAddr Try.underlying31 fsz37 rfl hA2383 rfl hi2384 hj2385) ?_
         refine TV rfl rfl rfl (Val.fieldAddrE Try.underlying37 rfl fsz25 rfl rfl) ?_
         refine TV rfl rfl rfl (Val.loadS agg25 rfl (hcl2386 5 _ rfl)) ?_
         refine TV rfl rfl rfl (Val.len Try.underlying25 rfl) ?_
         refine TV rfl rfl rfl (Val.cmp rfl rfl run_gtr) ?_
         refine TL.nil ?_
         refine TQ.then_ ?_
         refine TC.cond_p rfl h (fun hc2394 h=>?_) (fun hc2394 h=>?_)
         ·
          refine TC.seq ?_
          refine TC.region ?_
          refine TV rfl rfl rfl (Val.assign rfl) ?_
          refine TL.nil ?_
          refine TQ.then_ ?_
          refine TC.ret ?_
          refine TQ.inBR ?_
          refine TQ.thenR ?_
          refine TQ.thenR ?_
          refine TQ.inBR ?_
          refine TQ.thenR ?_
          refine TQ.inBR ?_
          refine TQ.thenR ?_
          refine TQ.thenR ?_
          refine TQ.inBR ?_
          refine TQ.thenR ?_
          refine TQ.thenR ?_
          obtain rfl:=Option.some.inj h
          have h:=ko2225
          obtain rfl:=Option.some.inj h
          have h:=ko1226
          obtain rfl:=Option.some.inj h
          exact TQ.fin (.inl rfl) rfl Try.results5 (.tmp rfl .nil) rfl (FRel.mk (Ls:=[]) [] 1 (Gd.le.refl _) rfl rfl rfl ⟨rfl,rfl,rfl⟩)
         ·
          refine TC.skip ?_
          refine TQ.inB ?_
          refine TQ.then_ ?_
          refine TC.region ?_
          refine TV rfl rfl rfl (Val.move rfl) ?_
          refine TV rfl rfl rfl (Val.cmp rfl rfl run_add) ?_
          refine TV rfl rfl rfl (Val.assign rfl) ?_
          refine TL.nil ?_
          exact fun a W hF hO=>⟨IntKind.i64.wrap (x2132 + 1),h,hF.sub ⟨rfl,rfl,rfl,rfl,trivial⟩,hO.selT (Ls:=[Blk b5 [VI a0.f0,.slice A1 a0.f1.length c2] 24]) [0] 1 rfl rfl rfl⟩
        ·
         refine TC.exit ?_
         refine TQ.thenX ?_
         refine TQ.thenX ?_
         refine TQ.inBX ?_
         exact fun a W hF hO=>⟨Option.some.inj h,hF.sub ⟨rfl,rfl,rfl,trivial⟩,hO.selT (Ls:=[Blk b5 [VI a0.f0,.slice A1 a0.f1.length c2] 24]) [0] 1 rfl rfl rfl⟩
       ·
        refine TC.region ?_
        refine TV rfl rfl rfl (Val.move rfl) ?_
        refine TV rfl rfl rfl (Val.fieldAddrB Try.underlying24 rfl fsz22 rfl rfl rfl) ?_
        refine TV rfl rfl rfl (Val.loadB 0 agg22 rfl rfl rfl) ?_
        refine TV rfl rfl rfl (Val.move rfl) ?_
        obtain ⟨y2395,hx2396,h⟩:=bind_no h
        obtain ⟨ad2397,cs2403,hA2398,hi2399,hj2400,hcl2401,hK2402⟩:=Rd.at hr3 hx2396
        obtain ⟨A2404,c2405,rfl,hr2406,hl2407⟩:=k35_openR hK2402
        refine TV rfl rfl rfl (Val.indexAddr Try.underlying22 fsz35 rfl hA2398 rfl hi2399 hj2400) ?_
        refine TV rfl rfl rfl (Val.fieldAddrE Try.underlying35 rfl fsz31 rfl rfl) ?_
        refine TV rfl rfl rfl (Val.loadS agg31 rfl (hcl2401 0 _ rfl)) ?_
        refine TV rfl rfl rfl (Val.len Try.underlying31 rfl) ?_
        refine TV rfl rfl rfl (Val.cmp rfl rfl run_lss) ?_
        refine TV rfl rfl rfl (Val.move rfl) ?_
        refine TK.split (p:=x2132 < (y2395.f0.length:Int)) h (fun hg2408 h=>?_) (fun hg2408 h=>?_)
        ·
         have hk2409:decide (x2132 < (y2395.f0.length:Int))=true:=decide_eq_true hg2408
         refine TV (Wt.yes rfl rfl rfl hk2409) rfl rfl (Val.move rfl) ?_
         refine TV (Wt.yes rfl rfl rfl hk2409) rfl rfl (Val.cmp rfl rfl run_lss) ?_
         refine TV rfl rfl rfl (Val.pickY rfl hk2409 rfl) ?_
         refine TL.nil ?_
         exact fun a W hF hO=>⟨decide (x2132 < 300),h,hF.sub ⟨rfl,rfl,rfl,rfl,rfl,trivial⟩,hO.selT (Ls:=[Blk b5 [VI a0.f0,.slice A1 a0.f1.length c2] 24]) [0] 1 rfl rfl rfl⟩
        ·
         have hk2410:decide (x2132 < (y2395.f0.length:Int))=false:=decide_eq_false hg2408
         refine TL.cons (TL.not (Wt.no rfl rfl rfl hk2410) rfl ?_)
         refine TL.cons (TL.not (Wt.no rfl rfl rfl hk2410) rfl ?_)
         refine TV rfl rfl rfl (Val.pickN rfl hk2410 rfl) ?_
         refine TL.nil ?_
         exact fun a W hF hO=>⟨false,h,hF.sub ⟨rfl,rfl,rfl,rfl,rfl,trivial⟩,hO.selT (Ls:=[Blk b5 [VI a0.f0,.slice A1 a0.f1.length c2] 24]) [0] 1 rfl rfl rfl⟩
    ·
     refine TC.exit ?_
     refine TQ.thenX ?_
     refine TQ.thenX ?_
     refine TQ.inBX ?_
     exact fun a W hF hO=>⟨x818,Option.some.inj h,hF.sub ⟨rfl,rfl,trivial⟩,hO.selT (Ls:=[Blk b5 [VI a0.f0,.slice A1 a0.f1.length c2] 24]) [0] 1 rfl rfl rfl⟩
   ·
    refine TC.region ?_
    refine TV rfl rfl rfl (Val.move rfl) ?_
    refine TV rfl rfl rfl (Val.fieldAddrB Try.underlying24 rfl fsz22 rfl rfl rfl) ?_
    refine TV rfl rfl rfl (Val.loadB 0 agg22 rfl rfl rfl) ?_
    refine TV rfl rfl rfl (Val.len Try.underlying22 rfl) ?_
    refine TV rfl rfl rfl (Val.cmp rfl rfl run_lss) ?_
    refine TV rfl rfl rfl (Val.move rfl) ?_
    refine TK.split (p:=x819 < (a0.f1.length:Int)) h (fun hg2411 h=>?_) (fun hg2411 h=>?_)
    ·
     have hk2412:decide (x819 < (a0.f1.length:Int))=true:=decide_eq_true hg2411
     refine TV (Wt.yes rfl rfl rfl hk2412) rfl rfl (Val.move rfl) ?_
     refine TV (Wt.yes rfl rfl rfl hk2412) rfl rfl (Val.cmp rfl rfl run_lss) ?_
     refine TV rfl rfl rfl (Val.pickY rfl hk2412 rfl) ?_
     refine TL.nil ?_
     exact fun a W hF hO=>⟨decide (x819 < 100),h,hF.sub ⟨rfl,rfl,rfl,rfl,trivial⟩,hO.selT (Ls:=[Blk b5 [VI a0.f0,.slice A1 a0.f1.length c2] 24]) [0] 1 rfl rfl rfl⟩
    ·
     have hk2413:decide (x819 < (a0.f1.length:Int))=false:=decide_eq_false hg2411
     refine TL.cons (TL.not (Wt.no rfl rfl rfl hk2413) rfl ?_)
     refine TL.cons (TL.not (Wt.no rfl rfl rfl hk2413) rfl ?_)
     refine TV rfl rfl rfl (Val.pickN rfl hk2413 rfl) ?_
     refine TL.nil ?_
     exact fun a W hF hO=>⟨false,h,hF.sub ⟨rfl,rfl,rfl,rfl,trivial⟩,hO.selT (Ls:=[Blk b5 [VI a0.f0,.slice A1 a0.f1.length c2] 24]) [0] 1 rfl rfl rfl⟩
def code_within.f (a0:Int) (a1:Int) (a2:Int):Option Bool:=(if a1 ≤ a0 then some (decide (a0 ≤ a2)) else some false)
def code_within.post (G:Gd)  (r:Bool) (v:Value) (G':Gd) (Lr:List Ch):Prop:=G=G'∧v=.bool r∧Lr=[]
theorem code_within.calls {G:Gd} {r:Bool} {a0:Int} {a1:Int} {a2:Int} (h:code_within.f a0 a1 a2=some r):Fn Try.prog 14 G [] [VI a0,VI a1,VI a2] (code_within.post G  r):=by
 refine Fn.intro (e:=[(0,VI a0),(1,VI a1),(2,VI a2)]) 15 Try.func14 rfl Try.ntmps14 rfl rfl (Nat.le_of_ble_eq_true rfl) (fun L=>?_)
 unfold code_within.f at h
 refine TC.seq ?_
 refine TC.region ?_
 refine TV rfl rfl rfl (Val.assign rfl) ?_
 refine TL.nil ?_
 refine TQ.then_ ?_
 refine TC.seq ?_
 refine TC.region ?_
 refine TV rfl rfl rfl (Val.move rfl) ?_
 refine TV rfl rfl rfl (Val.move rfl) ?_
 refine TV rfl rfl rfl (Val.cmp rfl rfl run_geq) ?_
 refine TV rfl rfl rfl (Val.move rfl) ?_
 refine TK.split (p:=a1 ≤ a0) h (fun hg4 h=>?_) (fun hg4 h=>?_)
 ·
  have hk5:decide (a1 ≤ a0)=true:=decide_eq_true hg4
  refine TV (Wt.yes rfl rfl rfl hk5) rfl rfl (Val.move rfl) ?_
  refine TV (Wt.yes rfl rfl rfl hk5) rfl rfl (Val.move rfl) ?_
  refine TV (Wt.yes rfl rfl rfl hk5) rfl rfl (Val.cmp rfl rfl run_leq) ?_
  refine TV rfl rfl rfl (Val.pickY rfl hk5 rfl) ?_
  refine TV rfl rfl rfl (Val.assign rfl) ?_
  refine TL.nil ?_
  refine TQ.then_ ?_
  refine TC.ret ?_
  obtain rfl:=Option.some.inj h
  exact TQ.fin (.inl rfl) rfl Try.results14 (.tmp rfl .nil) rfl (FRel.mk (Ls:=[]) [] 0 (Gd.le.refl _) rfl rfl rfl ⟨rfl,rfl,rfl⟩)
 ·
  have hk6:decide (a1 ≤ a0)=false:=decide_eq_false hg4
  refine TL.cons (TL.not (Wt.no rfl rfl rfl hk6) rfl ?_)
  refine TL.cons (TL.not (Wt.no rfl rfl rfl hk6) rfl ?_)
  refine TL.cons (TL.not (Wt.no rfl rfl rfl hk6) rfl ?_)
  refine TV rfl rfl rfl (Val.pickN rfl hk6 rfl) ?_
  refine TV rfl rfl rfl (Val.assign rfl) ?_
  refine TL.nil ?_
  refine TQ.then_ ?_
  refine TC.ret ?_
  obtain rfl:=Option.some.inj h
  exact TQ.fin (.inl rfl) rfl Try.results14 (.tmp rfl .nil) rfl (FRel.mk (Ls:=[]) [] 0 (Gd.le.refl _) rfl rfl rfl ⟨rfl,rfl,rfl⟩)
def code_reg.f (a0:Int):Option Bool:=(code_within.f a0 1 4096).bind fun (y1:Bool)=>some y1
def code_reg.post (G:Gd)  (r:Bool) (v:Value) (G':Gd) (Lr:List Ch):Prop:=G=G'∧v=.bool r∧Lr=[]
theorem code_reg.calls {G:Gd} {r:Bool} {a0:Int} (h:code_reg.f a0=some r):Fn Try.prog 27 G [] [VI a0] (code_reg.post G  r):=by
 refine Fn.intro (e:=[(0,VI a0)]) 5 Try.func27 rfl Try.ntmps27 rfl rfl (Nat.le_of_ble_eq_true rfl) (fun L=>?_)
 unfold code_reg.f at h
 refine TC.seq ?_
 refine TC.region ?_
 refine TV rfl rfl rfl (Val.assign rfl) ?_
 refine TL.nil ?_
 refine TQ.then_ ?_
 refine TC.seq ?_
 refine TC.region ?_
 refine TV rfl rfl rfl (Val.move rfl) ?_
 obtain ⟨y1,hy2,h⟩:=bind_no h
 refine TL.cons (TL.callV (Lin:=[]) (args:=[VI a0,VI 1,VI 4096]) rfl rfl rfl hbd14 rfl rfl (code_within.calls (a0:=a0) (a1:=1) (a2:=4096) hy2) rfl ?_)
 rintro _ _ _ _ ⟨rfl,rfl,rfl⟩
 refine TV rfl rfl rfl (Val.assign rfl) ?_
 refine TL.nil ?_
 refine TQ.then_ ?_
 refine TC.ret ?_
 obtain rfl:=Option.some.inj h
 exact TQ.fin (.inl rfl) rfl Try.results27 (.tmp rfl .nil) rfl (FRel.mk (Ls:=[]) [] 0 (Gd.le.refl _) rfl rfl rfl ⟨rfl,rfl,rfl⟩)
def code_rightTerm.f (a0:S33) (a1:Int):Option Bool:=(if a0.f0=1 then (code_within.f a0.f2 0 (IntKind.i64.wrap (a1 - 1))).bind fun (y359:Bool)=>(if y359=true then some ((a0.f0 == a0.f0) && ((a0.f1 == 0) && ((a0.f2 == a0.f2) && (a0.f3 == 0)))) else some false) else (if a0.f0=2 then (code_within.f a0.f2 0 (IntKind.i64.wrap (a1 - 1))).bind fun (y452:Bool)=>(if y452=true then (code_within.f a0.f3 0 (IntKind.i64.wrap (a1 - 1))).bind fun (y460:Bool)=>(if y460=true then (code_reg.f a0.f1).bind fun (y464:Bool)=>some y464 else some false) else some false) else (if a0.f0=3 then (code_reg.f a0.f1).bind fun (y496:Bool)=>(if y496=true then some ((a0.f0 == a0.f0) && ((a0.f1 == a0.f1) && ((a0.f2 == 0) && (a0.f3 == 0)))) else some false) else (if a0.f0=4 then (code_within.f a0.f2 1 15).bind fun (y518:Bool)=>(if y518=true then some ((a0.f0 == a0.f0) && ((a0.f1 == 0) && ((a0.f2 == a0.f2) && (a0.f3 == 0)))) else some false) else some false))))
def code_rightTerm.post (G:Gd)  (r:Bool) (v:Value) (G':Gd) (Lr:List Ch):Prop:=G=G'∧v=.bool r∧Lr=[]
theorem code_rightTerm.calls {G:Gd} {r:Bool} {a0:S33} {a1:Int} (h:code_rightTerm.f a0 a1=some r):Fn Try.prog 17 G [] [.agg #[VI a0.f0,VI a0.f1,VI a0.f2,VI a0.f3],VI a1] (code_rightTerm.post G  r):=by
 refine Fn.intro (e:=[(0,.agg #[VI a0.f0,VI a0.f1,VI a0.f2,VI a0.f3]),(1,VI a1)]) 69 Try.func17 rfl Try.ntmps17 rfl rfl (Nat.le_of_ble_eq_true rfl) (fun L=>?_)
 unfold code_rightTerm.f at h
 refine TC.seq ?_
 refine TC.region ?_
 refine TL.cons (TL.box (cs:=[VI a0.f0,VI a0.f1,VI a0.f2,VI a0.f3]) rfl rfl rfl rfl (fun b1=>?_))
 refine TL.cons (TL.box (cs:=[VI a1]) rfl rfl rfl rfl (fun b2=>?_))
 refine TV rfl rfl rfl (Val.assign rfl) ?_
 refine TL.nil ?_
 refine TQ.then_ ?_
 refine TC.seq ?_
 refine TC.region ?_
 refine TV rfl rfl rfl (Val.makeFunc (xs:=[]) (ys:=[VP b2 0]) rfl rfl) ?_
 refine TV rfl rfl rfl (Val.assign rfl) ?_
 refine TL.nil ?_
 refine TQ.then_ ?_
 refine TC.seq ?_
 refine TC.seq ?_
 refine TC.region ?_
 refine TV rfl rfl rfl (Val.fieldAddrB Try.underlying33 rfl fsz3 rfl rfl rfl) ?_
 refine TV rfl rfl rfl (Val.loadB 1 agg3 rfl rfl rfl) ?_
 refine TL.nil ?_
 refine TQ.then_ ?_
 refine TC.block ?_
 refine TC.seq ?_
 refine TC.region ?_
 refine TV rfl rfl rfl (Val.cmp rfl rfl run_eql) ?_
 refine TV rfl rfl rfl (Val.assign rfl) ?_
 refine TL.nil ?_
 refine TQ.then_ ?_
 refine TC.cond_p rfl h (fun hc345 h=>?_) (fun hc345 h=>?_)
 ·
  refine TC.seq ?_
  refine TC.region ?_
  refine TV rfl rfl rfl (Val.move rfl) ?_
  refine TV rfl rfl rfl (Val.fieldAddrB Try.underlying33 rfl fsz3 rfl rfl rfl) ?_
  refine TV rfl rfl rfl (Val.loadB 1 agg3 rfl rfl rfl) ?_
  refine TL.cons (TO.inl (args:=[VI a0.f2,VP b2 0]) (e':=[(0,VI a0.f2),(1,VP b2 0)]) 8 rfl rfl hbd26 rfl rfl Try.func26 rfl Try.ntmps26 rfl rfl (Nat.le_of_ble_eq_true rfl) (fun a355 hf356=>?_))
  refine TC.seq ?_
  refine TC.region ?_
  refine TV rfl rfl rfl (Val.assign rfl) ?_
  refine TL.nil ?_
  refine TQ.then_ ?_
  refine TC.seq ?_
  refine TC.region ?_
  refine TV rfl rfl rfl (Val.move rfl) ?_
  refine TV rfl rfl rfl (Val.loadB 0 agg3 rfl rfl rfl) ?_
  refine TV rfl rfl rfl (Val.cmp rfl rfl run_sub) ?_
  obtain ⟨y359,hy360,h⟩:=bind_no h
  refine TL.cons (TL.callV (Lin:=[]) (args:=[VI a0.f2,VI 0,VI (IntKind.i64.wrap (a1 - 1))]) rfl rfl rfl hbd14 rfl rfl (code_within.calls (a0:=a0.f2) (a1:=0) (a2:=IntKind.i64.wrap (a1 - 1)) hy360) rfl ?_)
  rintro _ _ _ _ ⟨rfl,rfl,rfl⟩
  refine TV rfl rfl rfl (Val.assign rfl) ?_
  refine TL.nil ?_
  refine TQ.then_ ?_
  refine TC.ret ?_
  refine TQ.fin (v:=.bool y359) (.inl rfl) rfl Try.results26 (.tmp rfl .nil) rfl (After.mk hf356 rfl ?_)
  refine TV rfl rfl rfl (Val.move rfl) ?_
  refine TK.split (p:=y359=true) h (fun hg361 h=>?_) (fun hg361 h=>?_)
  ·
   have hk362:y359=true:=hg361
   refine TV (Wt.yes rfl rfl rfl hk362) rfl rfl (Val.loadsB 1 (cs:=[VI a0.f0,VI a0.f1,VI a0.f2,VI a0.f3]) agg33 fsz33 rfl rfl rfl rfl) ?_
   refine TV (Wt.yes rfl rfl rfl hk362) rfl rfl (Val.fieldAddrB Try.underlying33 rfl fsz3 rfl rfl rfl) ?_
   refine TV (Wt.yes rfl rfl rfl hk362) rfl rfl (Val.loadB 1 agg3 rfl rfl rfl) ?_
   refine TV (Wt.yes rfl rfl rfl hk362) rfl rfl (Val.fieldAddrB Try.underlying33 rfl fsz3 rfl rfl rfl) ?_
   refine TV (Wt.yes rfl rfl rfl hk362) rfl rfl (Val.loadB 1 agg3 rfl rfl rfl) ?_
   refine TV (Wt.yes rfl rfl rfl hk362) rfl rfl (Val.build (cs:=[VI a0.f0,VI 0,VI a0.f2,VI 0]) (is:=[0,2]) (xs:=[.tmp 18,.tmp 20]) Try.underlying33 zr33 bld33 rfl rfl rfl rfl) ?_
   refine TV (Wt.yes rfl rfl rfl hk362) rfl rfl (Val.eqA eqg33 rfl rfl (fun W=>eqs33 9998 W _ _ _ _ _ _ _ _)) ?_
   refine TV rfl rfl rfl (Val.pickY rfl hk362 rfl) ?_
   refine TV rfl rfl rfl (Val.assign rfl) ?_
   refine TL.nil ?_
   refine TQ.then_ ?_
   refine TC.ret ?_
   refine TQ.inBR ?_
   refine TQ.thenR ?_
   obtain rfl:=Option.some.inj h
   exact TQ.fin (.inl rfl) rfl Try.results17 (.tmp rfl .nil) rfl (FRel.mk (Ls:=[]) [] 2 (Gd.le.refl _) rfl rfl rfl ⟨rfl,rfl,rfl⟩)
  ·
   have hk363:y359=false:=(by simpa using hg361)
   refine TL.cons (TL.not (Wt.no rfl rfl rfl hk363) rfl ?_)
   refine TL.cons (TL.not (Wt.no rfl rfl rfl hk363) rfl ?_)
   refine TL.cons (TL.not (Wt.no rfl rfl rfl hk363) rfl ?_)
   refine TL.cons (TL.not (Wt.no rfl rfl rfl hk363) rfl ?_)
   refine TL.cons (TL.not (Wt.no rfl rfl rfl hk363) rfl ?_)
   refine TL.cons (TL.not (Wt.no rfl rfl rfl hk363) rfl ?_)
   refine TL.cons (TL.not (Wt.no rfl rfl rfl hk363) rfl ?_)
   refine TV rfl rfl rfl (Val.pickN rfl hk363 rfl) ?_
   refine TV rfl rfl rfl (Val.assign rfl) ?_
   refine TL.nil ?_
   refine TQ.then_ ?_
   refine TC.ret ?_
   refine TQ.inBR ?_
   refine TQ.thenR ?_
   obtain rfl:=Option.some.inj h
   exact TQ.fin (.inl rfl) rfl Try.results17 (.tmp rfl .nil) rfl (FRel.mk (Ls:=[]) [] 2 (Gd.le.refl _) rfl rfl rfl ⟨rfl,rfl,rfl⟩)
 ·
  refine TC.seq ?_
  refine TC.region ?_
  refine TV rfl rfl rfl (Val.cmp rfl rfl run_eql) ?_
  refine TV rfl rfl rfl (Val.assign rfl) ?_
  refine TL.nil ?_
  refine TQ.then_ ?_
  refine TC.cond_p rfl h (fun hc427 h=>?_) (fun hc427 h=>?_)
  ·
   refine TC.seq ?_
   refine TC.region ?_
   refine TV rfl rfl rfl (Val.move rfl) ?_
   refine TV rfl rfl rfl (Val.fieldAddrB Try.underlying33 rfl fsz3 rfl rfl rfl) ?_
   refine TV rfl rfl rfl (Val.loadB 1 agg3 rfl rfl rfl) ?_
   refine TL.cons (TO.inl (args:=[VI a0.f2,VP b2 0]) (e':=[(0,VI a0.f2),(1,VP b2 0)]) 8 rfl rfl hbd26 rfl rfl Try.func26 rfl Try.ntmps26 rfl rfl (Nat.le_of_ble_eq_true rfl) (fun a448 hf449=>?_))
   refine TC.seq ?_
   refine TC.region ?_
   refine TV rfl rfl rfl (Val.assign rfl) ?_
   refine TL.nil ?_
   refine TQ.then_ ?_
   refine TC.seq ?_
   refine TC.region ?_
   refine TV rfl rfl rfl (Val.move rfl) ?_
   refine TV rfl rfl rfl (Val.loadB 0 agg3 rfl rfl rfl) ?_
   refine TV rfl rfl rfl (Val.cmp rfl rfl run_sub) ?_
   obtain ⟨y452,hy453,h⟩:=bind_no h
   refine TL.cons (TL.callV (Lin:=[]) (args:=[VI a0.f2,VI 0,VI (IntKind.i64.wrap (a1 - 1))]) rfl rfl rfl hbd14 rfl rfl (code_within.calls (a0:=a0.f2) (a1:=0) (a2:=IntKind.i64.wrap (a1 - 1)) hy453) rfl ?_)
   rintro _ _ _ _ ⟨rfl,rfl,rfl⟩
   refine TV rfl rfl rfl (Val.assign rfl) ?_
   refine TL.nil ?_
   refine TQ.then_ ?_
   refine TC.ret ?_
   refine TQ.fin (v:=.bool y452) (.inl rfl) rfl Try.results26 (.tmp rfl .nil) rfl (After.mk hf449 rfl ?_)
   refine TV rfl rfl rfl (Val.move rfl) ?_
   refine TK.split (p:=y452=true) h (fun hg454 h=>?_) (fun hg454 h=>?_)
   ·
    have hk455:y452=true:=hg454
    refine TV (Wt.yes rfl rfl rfl hk455) rfl rfl (Val.move rfl) ?_
    refine TV (Wt.yes rfl rfl rfl hk455) rfl rfl (Val.fieldAddrB Try.underlying33 rfl fsz3 rfl rfl rfl) ?_
    refine TV (Wt.yes rfl rfl rfl hk455) rfl rfl (Val.loadB 1 agg3 rfl rfl rfl) ?_
    refine TL.cons (TO.inl (args:=[VI a0.f3,VP b2 0]) (e':=[(0,VI a0.f3),(1,VP b2 0)]) 8 (Wt.yes rfl rfl rfl hk455) rfl hbd26 rfl rfl Try.func26 rfl Try.ntmps26 rfl rfl (Nat.le_of_ble_eq_true rfl) (fun a456 hf457=>?_))
    refine TC.seq ?_
    refine TC.region ?_
    refine TV rfl rfl rfl (Val.assign rfl) ?_
    refine TL.nil ?_
    refine TQ.then_ ?_
    refine TC.seq ?_
    refine TC.region ?_
    refine TV rfl rfl rfl (Val.move rfl) ?_
    refine TV rfl rfl rfl (Val.loadB 0 agg3 rfl rfl rfl) ?_
    refine TV rfl rfl rfl (Val.cmp rfl rfl run_sub) ?_
    obtain ⟨y460,hy461,h⟩:=bind_no h
    refine TL.cons (TL.callV (Lin:=[]) (args:=[VI a0.f3,VI 0,VI (IntKind.i64.wrap (a1 - 1))]) rfl rfl rfl hbd14 rfl rfl (code_within.calls (a0:=a0.f3) (a1:=0) (a2:=IntKind.i64.wrap (a1 - 1)) hy461) rfl ?_)
    rintro _ _ _ _ ⟨rfl,rfl,rfl⟩
    refine TV rfl rfl rfl (Val.assign rfl) ?_
    refine TL.nil ?_
    refine TQ.then_ ?_
    refine TC.ret ?_
    refine TQ.fin (v:=.bool y460) (.inl rfl) rfl Try.results26 (.tmp rfl .nil) rfl (After.mk hf457 rfl ?_)
    refine TV rfl rfl rfl (Val.pickY rfl hk455 rfl) ?_
    refine TV rfl rfl rfl (Val.move rfl) ?_
    refine TK.split (p:=y460=true) h (fun hg462 h=>?_) (fun hg462 h=>?_)
    ·
     have hk463:y460=true:=hg462
     refine TV (Wt.yes rfl rfl rfl hk463) rfl rfl (Val.fieldAddrB Try.underlying33 rfl fsz3 rfl rfl rfl) ?_
     refine TV (Wt.yes rfl rfl rfl hk463) rfl rfl (Val.loadB 1 agg3 rfl rfl rfl) ?_
     obtain ⟨y464,hy465,h⟩:=bind_no h
     refine TL.cons (TL.callV (Lin:=[]) (args:=[VI a0.f1]) (Wt.yes rfl rfl rfl hk463) rfl rfl hbd27 rfl rfl (code_reg.calls (a0:=a0.f1) hy465) rfl ?_)
     rintro _ _ _ _ ⟨rfl,rfl,rfl⟩
     refine TV rfl rfl rfl (Val.pickY rfl hk463 rfl) ?_
     refine TV rfl rfl rfl (Val.assign rfl) ?_
     refine TL.nil ?_
     refine TQ.then_ ?_
     refine TC.ret ?_
     refine TQ.inBR ?_
     refine TQ.thenR ?_
     obtain rfl:=Option.some.inj h
     exact TQ.fin (.inl rfl) rfl Try.results17 (.tmp rfl .nil) rfl (FRel.mk (Ls:=[]) [] 2 (Gd.le.refl _) rfl rfl rfl ⟨rfl,rfl,rfl⟩)
    ·
     have hk466:y460=false:=(by simpa using hg462)
     refine TL.cons (TL.not (Wt.no rfl rfl rfl hk466) rfl ?_)
     refine TL.cons (TL.not (Wt.no rfl rfl rfl hk466) rfl ?_)
     refine TL.cons (TL.not (Wt.no rfl rfl rfl hk466) rfl ?_)
     refine TV rfl rfl rfl (Val.pickN rfl hk466 rfl) ?_
     refine TV rfl rfl rfl (Val.assign rfl) ?_
     refine TL.nil ?_
     refine TQ.then_ ?_
     refine TC.ret ?_
     refine TQ.inBR ?_
     refine TQ.thenR ?_
     obtain rfl:=Option.some.inj h
     exact TQ.fin (.inl rfl) rfl Try.results17 (.tmp rfl .nil) rfl (FRel.mk (Ls:=[]) [] 2 (Gd.le.refl _) rfl rfl rfl ⟨rfl,rfl,rfl⟩)
   ·
    have hk467:y452=false:=(by simpa using hg454)
    refine TL.cons (TL.not (Wt.no rfl rfl rfl hk467) rfl ?_)
    refine TL.cons (TL.not (Wt.no rfl rfl rfl hk467) rfl ?_)
    refine TL.cons (TL.not (Wt.no rfl rfl rfl hk467) rfl ?_)
    refine TL.cons (TL.not (Wt.no rfl rfl rfl hk467) rfl ?_)
    refine TV rfl rfl rfl (Val.pickN rfl hk467 rfl) ?_
    refine TV rfl rfl rfl (Val.move rfl) ?_
    refine TL.cons (TL.not (Wt.no rfl rfl rfl rfl) rfl ?_)
    refine TL.cons (TL.not (Wt.no rfl rfl rfl rfl) rfl ?_)
    refine TL.cons (TL.not (Wt.no rfl rfl rfl rfl) rfl ?_)
    refine TV rfl rfl rfl (Val.pickN rfl rfl rfl) ?_
    refine TV rfl rfl rfl (Val.assign rfl) ?_
    refine TL.nil ?_
    refine TQ.then_ ?_
    refine TC.ret ?_
    refine TQ.inBR ?_
    refine TQ.thenR ?_
    obtain rfl:=Option.some.inj h
    exact TQ.fin (.inl rfl) rfl Try.results17 (.tmp rfl .nil) rfl (FRel.mk (Ls:=[]) [] 2 (Gd.le.refl _) rfl rfl rfl ⟨rfl,rfl,rfl⟩)
  ·
   refine TC.seq ?_
   refine TC.region ?_
   refine TV rfl rfl rfl (Val.cmp rfl rfl run_eql) ?_
   refine TV rfl rfl rfl (Val.assign rfl) ?_
   refine TL.nil ?_
   refine TQ.then_ ?_
   refine TC.cond_p rfl h (fun hc490 h=>?_) (fun hc490 h=>?_)
   ·
    refine TC.seq ?_
    refine TC.region ?_
    refine TV rfl rfl rfl (Val.fieldAddrB Try.underlying33 rfl fsz3 rfl rfl rfl) ?_
    refine TV rfl rfl rfl (Val.loadB 1 agg3 rfl rfl rfl) ?_
    obtain ⟨y496,hy497,h⟩:=bind_no h
    refine TL.cons (TL.callV (Lin:=[]) (args:=[VI a0.f1]) rfl rfl rfl hbd27 rfl rfl (code_reg.calls (a0:=a0.f1) hy497) rfl ?_)
    rintro _ _ _ _ ⟨rfl,rfl,rfl⟩
    refine TV rfl rfl rfl (Val.move rfl) ?_
    refine TK.split (p:=y496=true) h (fun hg498 h=>?_) (fun hg498 h=>?_)
    ·
     have hk499:y496=true:=hg498
     refine TV (Wt.yes rfl rfl rfl hk499) rfl rfl (Val.loadsB 1 (cs:=[VI a0.f0,VI a0.f1,VI a0.f2,VI a0.f3]) agg33 fsz33 rfl rfl rfl rfl) ?_
     refine TV (Wt.yes rfl rfl rfl hk499) rfl rfl (Val.fieldAddrB Try.underlying33 rfl fsz3 rfl rfl rfl) ?_
     refine TV (Wt.yes rfl rfl rfl hk499) rfl rfl (Val.loadB 1 agg3 rfl rfl rfl) ?_
     refine TV (Wt.yes rfl rfl rfl hk499) rfl rfl (Val.fieldAddrB Try.underlying33 rfl fsz3 rfl rfl rfl) ?_
     refine TV (Wt.yes rfl rfl rfl hk499) rfl rfl (Val.loadB 1 agg3 rfl rfl rfl) ?_
     refine TV (Wt.yes rfl rfl rfl hk499) rfl rfl (Val.build (cs:=[VI a0.f0,VI a0.f1,VI 0,VI 0]) (is:=[0,1]) (xs:=[.tmp 49,.tmp 51]) Try.underlying33 zr33 bld33 rfl rfl rfl rfl) ?_
     refine TV (Wt.yes rfl rfl rfl hk499) rfl rfl (Val.eqA eqg33 rfl rfl (fun W=>eqs33 9998 W _ _ _ _ _ _ _ _)) ?_
     refine TV rfl rfl rfl (Val.pickY rfl hk499 rfl) ?_
     refine TV rfl rfl rfl (Val.assign rfl) ?_
     refine TL.nil ?_
     refine TQ.then_ ?_
     refine TC.ret ?_
     refine TQ.inBR ?_
     refine TQ.thenR ?_
     obtain rfl:=Option.some.inj h
     exact TQ.fin (.inl rfl) rfl Try.results17 (.tmp rfl .nil) rfl (FRel.mk (Ls:=[]) [] 2 (Gd.le.refl _) rfl rfl rfl ⟨rfl,rfl,rfl⟩)
    ·
     have hk500:y496=false:=(by simpa using hg498)
     refine TL.cons (TL.not (Wt.no rfl rfl rfl hk500) rfl ?_)
     refine TL.cons (TL.not (Wt.no rfl rfl rfl hk500) rfl ?_)
     refine TL.cons (TL.not (Wt.no rfl rfl rfl hk500) rfl ?_)
     refine TL.cons (TL.not (Wt.no rfl rfl rfl hk500) rfl ?_)
     refine TL.cons (TL.not (Wt.no rfl rfl rfl hk500) rfl ?_)
     refine TL.cons (TL.not (Wt.no rfl rfl rfl hk500) rfl ?_)
     refine TL.cons (TL.not (Wt.no rfl rfl rfl hk500) rfl ?_)
     refine TV rfl rfl rfl (Val.pickN rfl hk500 rfl) ?_
     refine TV rfl rfl rfl (Val.assign rfl) ?_
     refine TL.nil ?_
     refine TQ.then_ ?_
     refine TC.ret ?_
     refine TQ.inBR ?_
     refine TQ.thenR ?_
     obtain rfl:=Option.some.inj h
     exact TQ.fin (.inl rfl) rfl Try.results17 (.tmp rfl .nil) rfl (FRel.mk (Ls:=[]) [] 2 (Gd.le.refl _) rfl rfl rfl ⟨rfl,rfl,rfl⟩)
   ·
    refine TC.seq ?_
    refine TC.region ?_
    refine TV rfl rfl rfl (Val.cmp rfl rfl run_eql) ?_
    refine TV rfl rfl rfl (Val.assign rfl) ?_
    refine TL.nil ?_
    refine TQ.then_ ?_
    refine TC.cond_p rfl h (fun hc512 h=>?_) (fun hc512 h=>?_)
    ·
     refine TC.seq ?_
     refine TC.region ?_
     refine TV rfl rfl rfl (Val.fieldAddrB Try.underlying33 rfl fsz3 rfl rfl rfl) ?_
     refine TV rfl rfl rfl (Val.loadB 1 agg3 rfl rfl rfl) ?_
     obtain ⟨y518,hy519,h⟩:=bind_no h
     refine TL.cons (TL.callV (Lin:=[]) (args:=[VI a0.f2,VI 1,VI 15]) rfl rfl rfl hbd14 rfl rfl (code_within.calls (a0:=a0.f2) (a1:=1) (a2:=15) hy519) rfl ?_)
     rintro _ _ _ _ ⟨rfl,rfl,rfl⟩
     refine TV rfl rfl rfl (Val.move rfl) ?_
     refine TK.split (p:=y518=true) h (fun hg520 h=>?_) (fun hg520 h=>?_)
     ·
      have hk521:y518=true:=hg520
      refine TV (Wt.yes rfl rfl rfl hk521) rfl rfl (Val.loadsB 1 (cs:=[VI a0.f0,VI a0.f1,VI a0.f2,VI a0.f3]) agg33 fsz33 rfl rfl rfl rfl) ?_
      refine TV (Wt.yes rfl rfl rfl hk521) rfl rfl (Val.fieldAddrB Try.underlying33 rfl fsz3 rfl rfl rfl) ?_
      refine TV (Wt.yes rfl rfl rfl hk521) rfl rfl (Val.loadB 1 agg3 rfl rfl rfl) ?_
      refine TV (Wt.yes rfl rfl rfl hk521) rfl rfl (Val.fieldAddrB Try.underlying33 rfl fsz3 rfl rfl rfl) ?_
      refine TV (Wt.yes rfl rfl rfl hk521) rfl rfl (Val.loadB 1 agg3 rfl rfl rfl) ?_
      refine TV (Wt.yes rfl rfl rfl hk521) rfl rfl (Val.build (cs:=[VI a0.f0,VI 0,VI a0.f2,VI 0]) (is:=[0,2]) (xs:=[.tmp 63,.tmp 65]) Try.underlying33 zr33 bld33 rfl rfl rfl rfl) ?_
      refine TV (Wt.yes rfl rfl rfl hk521) rfl rfl (Val.eqA eqg33 rfl rfl (fun W=>eqs33 9998 W _ _ _ _ _ _ _ _)) ?_
      refine TV rfl rfl rfl (Val.pickY rfl hk521 rfl) ?_
      refine TV rfl rfl rfl (Val.assign rfl) ?_
      refine TL.nil ?_
      refine TQ.then_ ?_
      refine TC.ret ?_
      refine TQ.inBR ?_
      refine TQ.thenR ?_
      obtain rfl:=Option.some.inj h
      exact TQ.fin (.inl rfl) rfl Try.results17 (.tmp rfl .nil) rfl (FRel.mk (Ls:=[]) [] 2 (Gd.le.refl _) rfl rfl rfl ⟨rfl,rfl,rfl⟩)
     ·
      have hk522:y518=false:=(by simpa using hg520)
      refine TL.cons (TL.not (Wt.no rfl rfl rfl hk522) rfl ?_)
      refine TL.cons (TL.not (Wt.no rfl rfl rfl hk522) rfl ?_)
      refine TL.cons (TL.not (Wt.no rfl rfl rfl hk522) rfl ?_)
      refine TL.cons (TL.not (Wt.no rfl rfl rfl hk522) rfl ?_)
      refine TL.cons (TL.not (Wt.no rfl rfl rfl hk522) rfl ?_)
      refine TL.cons (TL.not (Wt.no rfl rfl rfl hk522) rfl ?_)
      refine TL.cons (TL.not (Wt.no rfl rfl rfl hk522) rfl ?_)
      refine TV rfl rfl rfl (Val.pickN rfl hk522 rfl) ?_
      refine TV rfl rfl rfl (Val.assign rfl) ?_
      refine TL.nil ?_
      refine TQ.then_ ?_
      refine TC.ret ?_
      refine TQ.inBR ?_
      refine TQ.thenR ?_
      obtain rfl:=Option.some.inj h
      exact TQ.fin (.inl rfl) rfl Try.results17 (.tmp rfl .nil) rfl (FRel.mk (Ls:=[]) [] 2 (Gd.le.refl _) rfl rfl rfl ⟨rfl,rfl,rfl⟩)
    ·
     refine TC.skip ?_
     refine TQ.inB ?_
     refine TQ.then_ ?_
     refine TC.seq ?_
     refine TC.region ?_
     refine TV rfl rfl rfl (Val.assign rfl) ?_
     refine TL.nil ?_
     refine TQ.then_ ?_
     refine TC.ret ?_
     obtain rfl:=Option.some.inj h
     exact TQ.fin (.inl rfl) rfl Try.results17 (.tmp rfl .nil) rfl (FRel.mk (Ls:=[]) [] 2 (Gd.le.refl _) rfl rfl rfl ⟨rfl,rfl,rfl⟩)
def code_shapeOf.f (a0:Int):Option (S66 × Bool):=jn (γ:=(S66 × Bool)) (fun (x46:Bool)=>(if x46=true then some ((⟨true,false,false,true⟩:S66),true) else (if a0=2 then some ((⟨true,true,true,true⟩:S66),true) else (if a0=3 then some ((⟨true,true,false,false⟩:S66),true) else (if a0=4 then some ((⟨true,true,false,true⟩:S66),true) else (if a0=5 then some ((⟨false,true,true,true⟩:S66),true) else (if a0=8 then some ((⟨true,false,false,false⟩:S66),true) else (if a0=9 then some ((⟨false,true,false,false⟩:S66),true) else some ((⟨false,false,false,false⟩:S66),false))))))))) (fun (j47:(Bool → Option (S66 × Bool)))=>(if a0=1 then j47 (decide (a0=1)) else (if a0=6 then j47 (decide (a0=6)) else j47 (decide (a0=7)))))
def code_shapeOf.post (G:Gd)  (r:(S66 × Bool)) (v:Value) (G':Gd) (Lr:List Ch):Prop:=G=G'∧v=.tuple #[.agg #[.bool r.1.f0,.bool r.1.f1,.bool r.1.f2,.bool r.1.f3],.bool r.2]∧Lr=[]
theorem code_shapeOf.calls {G:Gd} {r:(S66 × Bool)} {a0:Int} (h:code_shapeOf.f a0=some r):Fn Try.prog 29 G [] [VI a0] (code_shapeOf.post G  r):=by
 refine Fn.intro (e:=[(0,VI a0)]) 29 Try.func29 rfl Try.ntmps29 rfl rfl (Nat.le_of_ble_eq_true rfl) (fun L=>?_)
 unfold code_shapeOf.f at h
 refine TC.seq ?_
 refine TC.region ?_
 refine TL.cons (TL.alloc (cs:=[.bool false,.bool false,.bool false,.bool false]) rfl rfl zr66 rfl (fun b1=>?_))
 refine TV rfl rfl rfl (Val.assign rfl) ?_
 refine TL.nil ?_
 refine TQ.then_ ?_
 refine TC.seq ?_
 refine TC.seq ?_
 refine TC.region ?_
 refine TV rfl rfl rfl (Val.move rfl) ?_
 refine TL.nil ?_
 refine TQ.then_ ?_
 refine TC.block ?_
 refine TC.seq ?_
 refine TC.seq ?_
 refine TC.region ?_
 refine TV rfl rfl rfl (Val.cmp rfl rfl run_eql) ?_
 refine TV rfl rfl rfl (Val.assign rfl) ?_
 refine TL.nil ?_
 refine TQ.then_ ?_
 obtain ⟨j47,hj47,h⟩:=jn_no h
 refine TC.tail (fun a W=>∃ (x46:Bool),j47 x46=some r∧Fr 29 a [(2,VP b1 0),(4,VI a0),(5,.bool x46)]∧Own G (Blk b1 [.bool false,.bool false,.bool false,.bool false] 66::L) W) ?_ ?_
 ·
  rintro a W ⟨x46,h,hF,hO⟩
  rw [hj47] at h
  refine TQ.use ?_ hF hO
  clear hF hO
  refine TQ.then_ ?_
  refine TC.cond_b rfl h (fun hc55 h=>?_) (fun hc55 h=>?_)
  ·
   refine TC.seq ?_
   refine TC.region ?_
   refine TV rfl rfl rfl (Val.build (cs:=[.bool true,.bool false,.bool false,.bool true]) (is:=[0,3]) (xs:=[.const (.bool true),.const (.bool true)]) Try.underlying66 zr66 bld66 rfl rfl rfl rfl) ?_
   refine TL.cons (TL.store 0 (ds:=[.bool true,.bool false,.bool false,.bool true]) (cs':=[.bool true,.bool false,.bool false,.bool true]) (L':=(Blk b1 [.bool true,.bool false,.bool false,.bool true] 66::L)) rfl fsz66 rfl rfl rfl rfl rfl (Nat.le_of_ble_eq_true rfl) rfl rfl ?_)
   refine TV rfl rfl rfl (Val.assign rfl) ?_
   refine TL.nil ?_
   refine TQ.then_ ?_
   refine TC.ret ?_
   refine TQ.inBR ?_
   refine TQ.thenR ?_
   obtain rfl:=Option.some.inj h
   exact TQ.fin (.inl rfl) rfl Try.results29 (.cells 0 rfl rfl agg66 fsz66 (.tmp rfl .nil)) rfl (FRel.mk (Ls:=[]) [] 1 (Gd.le.refl _) rfl rfl rfl ⟨rfl,rfl,rfl⟩)
  ·
   refine TC.seq ?_
   refine TC.region ?_
   refine TV rfl rfl rfl (Val.cmp rfl rfl run_eql) ?_
   refine TV rfl rfl rfl (Val.assign rfl) ?_
   refine TL.nil ?_
   refine TQ.then_ ?_
   refine TC.cond_p rfl h (fun hc62 h=>?_) (fun hc62 h=>?_)
   ·
    refine TC.seq ?_
    refine TC.region ?_
    refine TV rfl rfl rfl (Val.build (cs:=[.bool true,.bool true,.bool true,.bool true]) (is:=[0,1,2,3]) (xs:=[.const (.bool true),.const (.bool true),.const (.bool true),.const (.bool true)]) Try.underlying66 zr66 bld66 rfl rfl rfl rfl) ?_
    refine TL.cons (TL.store 0 (ds:=[.bool true,.bool true,.bool true,.bool true]) (cs':=[.bool true,.bool true,.bool true,.bool true]) (L':=(Blk b1 [.bool true,.bool true,.bool true,.bool true] 66::L)) rfl fsz66 rfl rfl rfl rfl rfl (Nat.le_of_ble_eq_true rfl) rfl rfl ?_)
    refine TV rfl rfl rfl (Val.assign rfl) ?_
    refine TL.nil ?_
    refine TQ.then_ ?_
    refine TC.ret ?_
    refine TQ.inBR ?_
    refine TQ.thenR ?_
    obtain rfl:=Option.some.inj h
    exact TQ.fin (.inl rfl) rfl Try.results29 (.cells 0 rfl rfl agg66 fsz66 (.tmp rfl .nil)) rfl (FRel.mk (Ls:=[]) [] 1 (Gd.le.refl _) rfl rfl rfl ⟨rfl,rfl,rfl⟩)
   ·
    refine TC.seq ?_
    refine TC.region ?_
    refine TV rfl rfl rfl (Val.cmp rfl rfl run_eql) ?_
    refine TV rfl rfl rfl (Val.assign rfl) ?_
    refine TL.nil ?_
    refine TQ.then_ ?_
    refine TC.cond_p rfl h (fun hc68 h=>?_) (fun hc68 h=>?_)
    ·
     refine TC.seq ?_
     refine TC.region ?_
     refine TV rfl rfl rfl (Val.build (cs:=[.bool true,.bool true,.bool false,.bool false]) (is:=[0,1]) (xs:=[.const (.bool true),.const (.bool true)]) Try.underlying66 zr66 bld66 rfl rfl rfl rfl) ?_
     refine TL.cons (TL.store 0 (ds:=[.bool true,.bool true,.bool false,.bool false]) (cs':=[.bool true,.bool true,.bool false,.bool false]) (L':=(Blk b1 [.bool true,.bool true,.bool false,.bool false] 66::L)) rfl fsz66 rfl rfl rfl rfl rfl (Nat.le_of_ble_eq_true rfl) rfl rfl ?_)
     refine TV rfl rfl rfl (Val.assign rfl) ?_
     refine TL.nil ?_
     refine TQ.then_ ?_
     refine TC.ret ?_
     refine TQ.inBR ?_
     refine TQ.thenR ?_
     obtain rfl:=Option.some.inj h
     exact TQ.fin (.inl rfl) rfl Try.results29 (.cells 0 rfl rfl agg66 fsz66 (.tmp rfl .nil)) rfl (FRel.mk (Ls:=[]) [] 1 (Gd.le.refl _) rfl rfl rfl ⟨rfl,rfl,rfl⟩)
    ·
     refine TC.seq ?_
     refine TC.region ?_
     refine TV rfl rfl rfl (Val.cmp rfl rfl run_eql) ?_
     refine TV rfl rfl rfl (Val.assign rfl) ?_
     refine TL.nil ?_
     refine TQ.then_ ?_
     refine TC.cond_p rfl h (fun hc73 h=>?_) (fun hc73 h=>?_)
     ·
      refine TC.seq ?_
      refine TC.region ?_
      refine TV rfl rfl rfl (Val.build (cs:=[.bool true,.bool true,.bool false,.bool true]) (is:=[0,1,3]) (xs:=[.const (.bool true),.const (.bool true),.const (.bool true)]) Try.underlying66 zr66 bld66 rfl rfl rfl rfl) ?_
      refine TL.cons (TL.store 0 (ds:=[.bool true,.bool true,.bool false,.bool true]) (cs':=[.bool true,.bool true,.bool false,.bool true]) (L':=(Blk b1 [.bool true,.bool true,.bool false,.bool true] 66::L)) rfl fsz66 rfl rfl rfl rfl rfl (Nat.le_of_ble_eq_true rfl) rfl rfl ?_)
      refine TV rfl rfl rfl (Val.assign rfl) ?_
      refine TL.nil ?_
      refine TQ.then_ ?_
      refine TC.ret ?_
      refine TQ.inBR ?_
      refine TQ.thenR ?_
      obtain rfl:=Option.some.inj h
      exact TQ.fin (.inl rfl) rfl Try.results29 (.cells 0 rfl rfl agg66 fsz66 (.tmp rfl .nil)) rfl (FRel.mk (Ls:=[]) [] 1 (Gd.le.refl _) rfl rfl rfl ⟨rfl,rfl,rfl⟩)
     ·
      refine TC.seq ?_
      refine TC.region ?_
      refine TV rfl rfl rfl (Val.cmp rfl rfl run_eql) ?_
      refine TV rfl rfl rfl (Val.assign rfl) ?_
      refine TL.nil ?_
      refine TQ.then_ ?_
      refine TC.cond_p rfl h (fun hc77 h=>?_) (fun hc77 h=>?_)
      ·
       refine TC.seq ?_
       refine TC.region ?_
       refine TV rfl rfl rfl (Val.build (cs:=[.bool false,.bool true,.bool true,.bool true]) (is:=[1,2,3]) (xs:=[.const (.bool true),.const (.bool true),.const (.bool true)]) Try.underlying66 zr66 bld66 rfl rfl rfl rfl) ?_
       refine TL.cons (TL.store 0 (ds:=[.bool false,.bool true,.bool true,.bool true]) (cs':=[.bool false,.bool true,.bool true,.bool true]) (L':=(Blk b1 [.bool false,.bool true,.bool true,.bool true] 66::L)) rfl fsz66 rfl rfl rfl rfl rfl (Nat.le_of_ble_eq_true rfl) rfl rfl ?_)
       refine TV rfl rfl rfl (Val.assign rfl) ?_
       refine TL.nil ?_
       refine TQ.then_ ?_
       refine TC.ret ?_
       refine TQ.inBR ?_
       refine TQ.thenR ?_
       obtain rfl:=Option.some.inj h
       exact TQ.fin (.inl rfl) rfl Try.results29 (.cells 0 rfl rfl agg66 fsz66 (.tmp rfl .nil)) rfl (FRel.mk (Ls:=[]) [] 1 (Gd.le.refl _) rfl rfl rfl ⟨rfl,rfl,rfl⟩)
      ·
       refine TC.seq ?_
       refine TC.region ?_
       refine TV rfl rfl rfl (Val.cmp rfl rfl run_eql) ?_
       refine TV rfl rfl rfl (Val.assign rfl) ?_
       refine TL.nil ?_
       refine TQ.then_ ?_
       refine TC.cond_p rfl h (fun hc80 h=>?_) (fun hc80 h=>?_)
       ·
        refine TC.seq ?_
        refine TC.region ?_
        refine TV rfl rfl rfl (Val.build (cs:=[.bool true,.bool false,.bool false,.bool false]) (is:=[0]) (xs:=[.const (.bool true)]) Try.underlying66 zr66 bld66 rfl rfl rfl rfl) ?_
        refine TL.cons (TL.store 0 (ds:=[.bool true,.bool false,.bool false,.bool false]) (cs':=[.bool true,.bool false,.bool false,.bool false]) (L':=(Blk b1 [.bool true,.bool false,.bool false,.bool false] 66::L)) rfl fsz66 rfl rfl rfl rfl rfl (Nat.le_of_ble_eq_true rfl) rfl rfl ?_)
        refine TV rfl rfl rfl (Val.assign rfl) ?_
        refine TL.nil ?_
        refine TQ.then_ ?_
        refine TC.ret ?_
        refine TQ.inBR ?_
        refine TQ.thenR ?_
        obtain rfl:=Option.some.inj h
        exact TQ.fin (.inl rfl) rfl Try.results29 (.cells 0 rfl rfl agg66 fsz66 (.tmp rfl .nil)) rfl (FRel.mk (Ls:=[]) [] 1 (Gd.le.refl _) rfl rfl rfl ⟨rfl,rfl,rfl⟩)
       ·
        refine TC.seq ?_
        refine TC.region ?_
        refine TV rfl rfl rfl (Val.cmp rfl rfl run_eql) ?_
        refine TV rfl rfl rfl (Val.assign rfl) ?_
        refine TL.nil ?_
        refine TQ.then_ ?_
        refine TC.cond_p rfl h (fun hc82 h=>?_) (fun hc82 h=>?_)
        ·
         refine TC.seq ?_
         refine TC.region ?_
         refine TV rfl rfl rfl (Val.build (cs:=[.bool false,.bool true,.bool false,.bool false]) (is:=[1]) (xs:=[.const (.bool true)]) Try.underlying66 zr66 bld66 rfl rfl rfl rfl) ?_
         refine TL.cons (TL.store 0 (ds:=[.bool false,.bool true,.bool false,.bool false]) (cs':=[.bool false,.bool true,.bool false,.bool false]) (L':=(Blk b1 [.bool false,.bool true,.bool false,.bool false] 66::L)) rfl fsz66 rfl rfl rfl rfl rfl (Nat.le_of_ble_eq_true rfl) rfl rfl ?_)
         refine TV rfl rfl rfl (Val.assign rfl) ?_
         refine TL.nil ?_
         refine TQ.then_ ?_
         refine TC.ret ?_
         refine TQ.inBR ?_
         refine TQ.thenR ?_
         obtain rfl:=Option.some.inj h
         exact TQ.fin (.inl rfl) rfl Try.results29 (.cells 0 rfl rfl agg66 fsz66 (.tmp rfl .nil)) rfl (FRel.mk (Ls:=[]) [] 1 (Gd.le.refl _) rfl rfl rfl ⟨rfl,rfl,rfl⟩)
        ·
         refine TC.skip ?_
         refine TQ.inB ?_
         refine TQ.then_ ?_
         refine TC.seq ?_
         refine TC.region ?_
         refine TV rfl rfl rfl (Val.build (cs:=[.bool false,.bool false,.bool false,.bool false]) (is:=[]) (xs:=[]) Try.underlying66 zr66 bld66 rfl rfl rfl rfl) ?_
         refine TL.cons (TL.store 0 (ds:=[.bool false,.bool false,.bool false,.bool false]) (cs':=[.bool false,.bool false,.bool false,.bool false]) (L':=(Blk b1 [.bool false,.bool false,.bool false,.bool false] 66::L)) rfl fsz66 rfl rfl rfl rfl rfl (Nat.le_of_ble_eq_true rfl) rfl rfl ?_)
         refine TV rfl rfl rfl (Val.assign rfl) ?_
         refine TL.nil ?_
         refine TQ.then_ ?_
         refine TC.ret ?_
         obtain rfl:=Option.some.inj h
         exact TQ.fin (.inl rfl) rfl Try.results29 (.cells 0 rfl rfl agg66 fsz66 (.tmp rfl .nil)) rfl (FRel.mk (Ls:=[]) [] 1 (Gd.le.refl _) rfl rfl rfl ⟨rfl,rfl,rfl⟩)
 ·
  refine TC.cond_p rfl h (fun hc83 h=>?_) (fun hc83 h=>?_)
  ·
   refine TC.skip ?_
   exact fun a W hF hO=>⟨decide (a0=1),h,hF.sub ⟨rfl,rfl,rfl,trivial⟩,hO.selT (Ls:=[Blk b1 [.bool false,.bool false,.bool false,.bool false] 66]) [0] 1 rfl rfl rfl⟩
  ·
   refine TC.seq ?_
   refine TC.region ?_
   refine TV rfl rfl rfl (Val.cmp rfl rfl run_eql) ?_
   refine TV rfl rfl rfl (Val.assign rfl) ?_
   refine TL.nil ?_
   refine TQ.then_ ?_
   refine TC.cond_p rfl h (fun hc85 h=>?_) (fun hc85 h=>?_)
   ·
    refine TC.skip ?_
    exact fun a W hF hO=>⟨decide (a0=6),h,hF.sub ⟨rfl,rfl,rfl,trivial⟩,hO.selT (Ls:=[Blk b1 [.bool false,.bool false,.bool false,.bool false] 66]) [0] 1 rfl rfl rfl⟩
   ·
    refine TC.region ?_
    refine TV rfl rfl rfl (Val.cmp rfl rfl run_eql) ?_
    refine TV rfl rfl rfl (Val.assign rfl) ?_
    refine TL.nil ?_
    exact fun a W hF hO=>⟨decide (a0=7),h,hF.sub ⟨rfl,rfl,rfl,trivial⟩,hO.selT (Ls:=[Blk b1 [.bool false,.bool false,.bool false,.bool false] 66]) [0] 1 rfl rfl rfl⟩
def code_field.f (a0:Int) (a1:Bool):Option Bool:=(if a0=0 then (if (!a1)=true then some true else (if a1=true then (code_reg.f a0).bind fun (y24:Bool)=>some y24 else some false)) else (if a1=true then (code_reg.f a0).bind fun (y30:Bool)=>some y30 else some false))
def code_field.post (G:Gd)  (r:Bool) (v:Value) (G':Gd) (Lr:List Ch):Prop:=G=G'∧v=.bool r∧Lr=[]
theorem code_field.calls {G:Gd} {r:Bool} {a0:Int} {a1:Bool} (h:code_field.f a0 a1=some r):Fn Try.prog 30 G [] [VI a0,.bool a1] (code_field.post G  r):=by
 refine Fn.intro (e:=[(0,VI a0),(1,.bool a1)]) 18 Try.func30 rfl Try.ntmps30 rfl rfl (Nat.le_of_ble_eq_true rfl) (fun L=>?_)
 unfold code_field.f at h
 refine TC.seq ?_
 refine TC.region ?_
 refine TV rfl rfl rfl (Val.assign rfl) ?_
 refine TL.nil ?_
 refine TQ.then_ ?_
 refine TC.seq ?_
 refine TC.region ?_
 refine TV rfl rfl rfl (Val.move rfl) ?_
 refine TV rfl rfl rfl (Val.cmp rfl rfl run_eql) ?_
 refine TV rfl rfl rfl (Val.move rfl) ?_
 refine TK.split (p:=a0=0) h (fun hg17 h=>?_) (fun hg17 h=>?_)
 ·
  have hk18:decide (a0=0)=true:=decide_eq_true hg17
  refine TV (Wt.yes rfl rfl rfl hk18) rfl rfl (Val.move rfl) ?_
  refine TV (Wt.yes rfl rfl rfl hk18) rfl rfl (Val.not_ rfl) ?_
  refine TV rfl rfl rfl (Val.pickY rfl hk18 rfl) ?_
  refine TV rfl rfl rfl (Val.move rfl) ?_
  refine TK.split (p:=(!a1)=true) h (fun hg19 h=>?_) (fun hg19 h=>?_)
  ·
   have hk20:(!a1)=true:=hg19
   refine TL.cons (TL.not (Wt.no rfl rfl rfl hk20) rfl ?_)
   refine TL.cons (TL.not (Wt.no rfl rfl rfl hk20) rfl ?_)
   refine TL.cons (TL.not rfl rfl ?_)
   refine TL.cons (TL.not rfl rfl ?_)
   refine TL.cons (TL.not (Wt.no rfl rfl rfl hk20) rfl ?_)
   refine TV rfl rfl rfl (Val.pickY rfl hk20 rfl) ?_
   refine TV rfl rfl rfl (Val.assign rfl) ?_
   refine TL.nil ?_
   refine TQ.then_ ?_
   refine TC.ret ?_
   obtain rfl:=Option.some.inj h
   exact TQ.fin (.inl rfl) rfl Try.results30 (.tmp rfl .nil) rfl (FRel.mk (Ls:=[]) [] 0 (Gd.le.refl _) rfl rfl rfl ⟨rfl,rfl,rfl⟩)
  ·
   have hk21:(!a1)=false:=(by simpa using hg19)
   refine TV (Wt.yes rfl rfl rfl hk21) rfl rfl (Val.move rfl) ?_
   refine TV (Wt.yes rfl rfl rfl hk21) rfl rfl (Val.move rfl) ?_
   refine TK.split (p:=a1=true) h (fun hg22 h=>?_) (fun hg22 h=>?_)
   ·
    have hk23:a1=true:=hg22
    refine TV (Wt.yes rfl rfl rfl hk23) rfl rfl (Val.move rfl) ?_
    obtain ⟨y24,hy25,h⟩:=bind_no h
    refine TL.cons (TL.callV (Lin:=[]) (args:=[VI a0]) (Wt.yes rfl rfl rfl hk23) rfl rfl hbd27 rfl rfl (code_reg.calls (a0:=a0) hy25) rfl ?_)
    rintro _ _ _ _ ⟨rfl,rfl,rfl⟩
    refine TV (Wt.yes rfl rfl rfl hk21) rfl rfl (Val.pickY rfl hk23 rfl) ?_
    refine TV rfl rfl rfl (Val.pickN rfl hk21 rfl) ?_
    refine TV rfl rfl rfl (Val.assign rfl) ?_
    refine TL.nil ?_
    refine TQ.then_ ?_
    refine TC.ret ?_
    obtain rfl:=Option.some.inj h
    exact TQ.fin (.inl rfl) rfl Try.results30 (.tmp rfl .nil) rfl (FRel.mk (Ls:=[]) [] 0 (Gd.le.refl _) rfl rfl rfl ⟨rfl,rfl,rfl⟩)
   ·
    have hk26:a1=false:=(by simpa using hg22)
    refine TL.cons (TL.not (Wt.no rfl rfl rfl hk26) rfl ?_)
    refine TL.cons (TL.not (Wt.no rfl rfl rfl hk26) rfl ?_)
    refine TV (Wt.yes rfl rfl rfl hk21) rfl rfl (Val.pickN rfl hk26 rfl) ?_
    refine TV rfl rfl rfl (Val.pickN rfl hk21 rfl) ?_
    refine TV rfl rfl rfl (Val.assign rfl) ?_
    refine TL.nil ?_
    refine TQ.then_ ?_
    refine TC.ret ?_
    obtain rfl:=Option.some.inj h
    exact TQ.fin (.inl rfl) rfl Try.results30 (.tmp rfl .nil) rfl (FRel.mk (Ls:=[]) [] 0 (Gd.le.refl _) rfl rfl rfl ⟨rfl,rfl,rfl⟩)
 ·
  have hk27:decide (a0=0)=false:=decide_eq_false hg17
  refine TL.cons (TL.not (Wt.no rfl rfl rfl hk27) rfl ?_)
  refine TL.cons (TL.not (Wt.no rfl rfl rfl hk27) rfl ?_)
  refine TV rfl rfl rfl (Val.pickN rfl hk27 rfl) ?_
  refine TV rfl rfl rfl (Val.move rfl) ?_
  refine TV (Wt.yes rfl rfl rfl rfl) rfl rfl (Val.move rfl) ?_
  refine TV (Wt.yes rfl rfl rfl rfl) rfl rfl (Val.move rfl) ?_
  refine TK.split (p:=a1=true) h (fun hg28 h=>?_) (fun hg28 h=>?_)
  ·
   have hk29:a1=true:=hg28
   refine TV (Wt.yes rfl rfl rfl hk29) rfl rfl (Val.move rfl) ?_
   obtain ⟨y30,hy31,h⟩:=bind_no h
   refine TL.cons (TL.callV (Lin:=[]) (args:=[VI a0]) (Wt.yes rfl rfl rfl hk29) rfl rfl hbd27 rfl rfl (code_reg.calls (a0:=a0) hy31) rfl ?_)
   rintro _ _ _ _ ⟨rfl,rfl,rfl⟩
   refine TV (Wt.yes rfl rfl rfl rfl) rfl rfl (Val.pickY rfl hk29 rfl) ?_
   refine TV rfl rfl rfl (Val.pickN rfl rfl rfl) ?_
   refine TV rfl rfl rfl (Val.assign rfl) ?_
   refine TL.nil ?_
   refine TQ.then_ ?_
   refine TC.ret ?_
   obtain rfl:=Option.some.inj h
   exact TQ.fin (.inl rfl) rfl Try.results30 (.tmp rfl .nil) rfl (FRel.mk (Ls:=[]) [] 0 (Gd.le.refl _) rfl rfl rfl ⟨rfl,rfl,rfl⟩)
  ·
   have hk32:a1=false:=(by simpa using hg28)
   refine TL.cons (TL.not (Wt.no rfl rfl rfl hk32) rfl ?_)
   refine TL.cons (TL.not (Wt.no rfl rfl rfl hk32) rfl ?_)
   refine TV (Wt.yes rfl rfl rfl rfl) rfl rfl (Val.pickN rfl hk32 rfl) ?_
   refine TV rfl rfl rfl (Val.pickN rfl rfl rfl) ?_
   refine TV rfl rfl rfl (Val.assign rfl) ?_
   refine TL.nil ?_
   refine TQ.then_ ?_
   refine TC.ret ?_
   obtain rfl:=Option.some.inj h
   exact TQ.fin (.inl rfl) rfl Try.results30 (.tmp rfl .nil) rfl (FRel.mk (Ls:=[]) [] 0 (Gd.le.refl _) rfl rfl rfl ⟨rfl,rfl,rfl⟩)
def word_Known.f (a0:Int):Option Bool:=(if 1 ≤ a0 then some (decide (a0 ≤ 14)) else some false)
def word_Known.post (G:Gd)  (r:Bool) (v:Value) (G':Gd) (Lr:List Ch):Prop:=G=G'∧v=.bool r∧Lr=[]
theorem word_Known.calls {G:Gd} {r:Bool} {a0:Int} (h:word_Known.f a0=some r):Fn Try.prog 37 G [] [VI a0] (word_Known.post G  r):=by
 refine Fn.intro (e:=[(0,VI a0)]) 9 Try.func37 rfl Try.ntmps37 rfl rfl (Nat.le_of_ble_eq_true rfl) (fun L=>?_)
 unfold word_Known.f at h
 refine TC.seq ?_
 refine TC.region ?_
 refine TV rfl rfl rfl (Val.assign rfl) ?_
 refine TL.nil ?_
 refine TQ.then_ ?_
 refine TC.seq ?_
 refine TC.region ?_
 refine TV rfl rfl rfl (Val.move rfl) ?_
 refine TV rfl rfl rfl (Val.cmp rfl rfl run_geq) ?_
 refine TV rfl rfl rfl (Val.move rfl) ?_
 refine TK.split (p:=1 ≤ a0) h (fun hg4 h=>?_) (fun hg4 h=>?_)
 ·
  have hk5:decide (1 ≤ a0)=true:=decide_eq_true hg4
  refine TV (Wt.yes rfl rfl rfl hk5) rfl rfl (Val.move rfl) ?_
  refine TV (Wt.yes rfl rfl rfl hk5) rfl rfl (Val.cmp rfl rfl run_leq) ?_
  refine TV rfl rfl rfl (Val.pickY rfl hk5 rfl) ?_
  refine TV rfl rfl rfl (Val.assign rfl) ?_
  refine TL.nil ?_
  refine TQ.then_ ?_
  refine TC.ret ?_
  obtain rfl:=Option.some.inj h
  exact TQ.fin (.inl rfl) rfl Try.results37 (.tmp rfl .nil) rfl (FRel.mk (Ls:=[]) [] 0 (Gd.le.refl _) rfl rfl rfl ⟨rfl,rfl,rfl⟩)
 ·
  have hk6:decide (1 ≤ a0)=false:=decide_eq_false hg4
  refine TL.cons (TL.not (Wt.no rfl rfl rfl hk6) rfl ?_)
  refine TL.cons (TL.not (Wt.no rfl rfl rfl hk6) rfl ?_)
  refine TV rfl rfl rfl (Val.pickN rfl hk6 rfl) ?_
  refine TV rfl rfl rfl (Val.assign rfl) ?_
  refine TL.nil ?_
  refine TQ.then_ ?_
  refine TC.ret ?_
  obtain rfl:=Option.some.inj h
  exact TQ.fin (.inl rfl) rfl Try.results37 (.tmp rfl .nil) rfl (FRel.mk (Ls:=[]) [] 0 (Gd.le.refl _) rfl rfl rfl ⟨rfl,rfl,rfl⟩)
def code_immediate.f (a0:S37) (a1:S66) (a2:Int):Option Bool:=(if a0.f0=2 then (word_Known.f a0.f4).bind fun (y74:Bool)=>some y74 else jn (γ:=Bool) (fun (x77:Bool)=>(if x77=true then (code_within.f a0.f4 (-2147483648) 2147483647).bind fun (y89:Bool)=>some y89 else (if a0.f0=6 then (code_within.f a0.f4 0 1048576).bind fun (y98:Bool)=>some y98 else (if a0.f0=7 then (code_within.f a0.f4 0 (IntKind.i64.wrap (a2 - 1))).bind fun (y104:Bool)=>some y104 else (if a1.f3=true then some true else some (decide (a0.f4=0))))))) (fun (j78:(Bool → Option Bool))=>(if a0.f0=4 then j78 (decide (a0.f0=4)) else j78 (decide (a0.f0=5)))))
def code_immediate.post (G:Gd)  (r:Bool) (v:Value) (G':Gd) (Lr:List Ch):Prop:=G=G'∧v=.bool r∧Lr=[]
theorem code_immediate.calls {G:Gd} {r:Bool} {a0:S37} {a1:S66} {a2:Int} {A1:Option Addr} {c2:Nat} (hr3:Rd G kI A1 a0.f5) (hl4:a0.f5.length ≤ c2) (h:code_immediate.f a0 a1 a2=some r):Fn Try.prog 31 G [] [.agg #[VI a0.f0,VI a0.f1,VI a0.f2,VI a0.f3,VI a0.f4,.slice A1 a0.f5.length c2],.agg #[.bool a1.f0,.bool a1.f1,.bool a1.f2,.bool a1.f3],VI a2] (code_immediate.post G  r):=by
 refine Fn.intro (e:=[(0,.agg #[VI a0.f0,VI a0.f1,VI a0.f2,VI a0.f3,VI a0.f4,.slice A1 a0.f5.length c2]),(1,.agg #[.bool a1.f0,.bool a1.f1,.bool a1.f2,.bool a1.f3]),(2,VI a2)]) 39 Try.func31 rfl Try.ntmps31 rfl rfl (Nat.le_of_ble_eq_true rfl) (fun L=>?_)
 unfold code_immediate.f at h
 refine TC.seq ?_
 refine TC.region ?_
 refine TL.cons (TL.box (cs:=[VI a0.f0,VI a0.f1,VI a0.f2,VI a0.f3,VI a0.f4,.slice A1 a0.f5.length c2]) rfl rfl rfl rfl (fun b5=>?_))
 refine TL.cons (TL.box (cs:=[.bool a1.f0,.bool a1.f1,.bool a1.f2,.bool a1.f3]) rfl rfl rfl rfl (fun b6=>?_))
 refine TV rfl rfl rfl (Val.assign rfl) ?_
 refine TL.nil ?_
 refine TQ.then_ ?_
 refine TC.seq ?_
 refine TC.seq ?_
 refine TC.region ?_
 refine TV rfl rfl rfl (Val.fieldAddrB Try.underlying37 rfl fsz3 rfl rfl rfl) ?_
 refine TV rfl rfl rfl (Val.loadB 1 agg3 rfl rfl rfl) ?_
 refine TL.nil ?_
 refine TQ.then_ ?_
 refine TC.block ?_
 refine TC.seq ?_
 refine TC.region ?_
 refine TV rfl rfl rfl (Val.cmp rfl rfl run_eql) ?_
 refine TV rfl rfl rfl (Val.assign rfl) ?_
 refine TL.nil ?_
 refine TQ.then_ ?_
 refine TC.cond_p rfl h (fun hc73 h=>?_) (fun hc73 h=>?_)
 ·
  refine TC.seq ?_
  refine TC.region ?_
  refine TV rfl rfl rfl (Val.fieldAddrB Try.underlying37 rfl fsz3 rfl rfl rfl) ?_
  refine TV rfl rfl rfl (Val.loadB 1 agg3 rfl rfl rfl) ?_
  obtain ⟨y74,hy75,h⟩:=bind_no h
  refine TL.cons (TL.callV (Lin:=[]) (args:=[VI a0.f4]) rfl rfl rfl hbd37 rfl rfl (word_Known.calls (a0:=a0.f4) hy75) rfl ?_)
  rintro _ _ _ _ ⟨rfl,rfl,rfl⟩
  refine TV rfl rfl rfl (Val.assign rfl) ?_
  refine TL.nil ?_
  refine TQ.then_ ?_
  refine TC.ret ?_
  refine TQ.inBR ?_
  refine TQ.thenR ?_
  obtain rfl:=Option.some.inj h
  exact TQ.fin (.inl rfl) rfl Try.results31 (.tmp rfl .nil) rfl (FRel.mk (Ls:=[]) [] 2 (Gd.le.refl _) rfl rfl rfl ⟨rfl,rfl,rfl⟩)
 ·
  refine TC.seq ?_
  refine TC.seq ?_
  refine TC.region ?_
  refine TV rfl rfl rfl (Val.cmp rfl rfl run_eql) ?_
  refine TV rfl rfl rfl (Val.assign rfl) ?_
  refine TL.nil ?_
  refine TQ.then_ ?_
  obtain ⟨j78,hj78,h⟩:=jn_no h
  refine TC.tail (fun a W=>∃ (x77:Bool),j78 x77=some r∧Fr 39 a [(2,VI a2),(3,VP b5 0),(4,VP b6 0),(8,VI a0.f0),(14,.bool x77)]∧Own G (Blk b5 [VI a0.f0,VI a0.f1,VI a0.f2,VI a0.f3,VI a0.f4,.slice A1 a0.f5.length c2] 37::Blk b6 [.bool a1.f0,.bool a1.f1,.bool a1.f2,.bool a1.f3] 66::L) W) ?_ ?_
  ·
   rintro a W ⟨x77,h,hF,hO⟩
   rw [hj78] at h
   refine TQ.use ?_ hF hO
   clear hF hO
   refine TQ.then_ ?_
   refine TC.cond_b rfl h (fun hc88 h=>?_) (fun hc88 h=>?_)
   ·
    refine TC.seq ?_
    refine TC.region ?_
    refine TV rfl rfl rfl (Val.fieldAddrB Try.underlying37 rfl fsz3 rfl rfl rfl) ?_
    refine TV rfl rfl rfl (Val.loadB 0 agg3 rfl rfl rfl) ?_
    obtain ⟨y89,hy90,h⟩:=bind_no h
    refine TL.cons (TL.callV (Lin:=[]) (args:=[VI a0.f4,VI (-2147483648),VI 2147483647]) rfl rfl rfl hbd14 rfl rfl (code_within.calls (a0:=a0.f4) (a1:=(-2147483648)) (a2:=2147483647) hy90) rfl ?_)
    rintro _ _ _ _ ⟨rfl,rfl,rfl⟩
    refine TV rfl rfl rfl (Val.assign rfl) ?_
    refine TL.nil ?_
    refine TQ.then_ ?_
    refine TC.ret ?_
    refine TQ.inBR ?_
    refine TQ.thenR ?_
    obtain rfl:=Option.some.inj h
    exact TQ.fin (.inl rfl) rfl Try.results31 (.tmp rfl .nil) rfl (FRel.mk (Ls:=[]) [] 2 (Gd.le.refl _) rfl rfl rfl ⟨rfl,rfl,rfl⟩)
   ·
    refine TC.seq ?_
    refine TC.region ?_
    refine TV rfl rfl rfl (Val.cmp rfl rfl run_eql) ?_
    refine TV rfl rfl rfl (Val.assign rfl) ?_
    refine TL.nil ?_
    refine TQ.then_ ?_
    refine TC.cond_p rfl h (fun hc97 h=>?_) (fun hc97 h=>?_)
    ·
     refine TC.seq ?_
     refine TC.region ?_
     refine TV rfl rfl rfl (Val.fieldAddrB Try.underlying37 rfl fsz3 rfl rfl rfl) ?_
     refine TV rfl rfl rfl (Val.loadB 0 agg3 rfl rfl rfl) ?_
     obtain ⟨y98,hy99,h⟩:=bind_no h
     refine TL.cons (TL.callV (Lin:=[]) (args:=[VI a0.f4,VI 0,VI 1048576]) rfl rfl rfl hbd14 rfl rfl (code_within.calls (a0:=a0.f4) (a1:=0) (a2:=1048576) hy99) rfl ?_)
     rintro _ _ _ _ ⟨rfl,rfl,rfl⟩
     refine TV rfl rfl rfl (Val.assign rfl) ?_
     refine TL.nil ?_
     refine TQ.then_ ?_
     refine TC.ret ?_
     refine TQ.inBR ?_
     refine TQ.thenR ?_
     obtain rfl:=Option.some.inj h
     exact TQ.fin (.inl rfl) rfl Try.results31 (.tmp rfl .nil) rfl (FRel.mk (Ls:=[]) [] 2 (Gd.le.refl _) rfl rfl rfl ⟨rfl,rfl,rfl⟩)
    ·
     refine TC.seq ?_
     refine TC.region ?_
     refine TV rfl rfl rfl (Val.cmp rfl rfl run_eql) ?_
     refine TV rfl rfl rfl (Val.assign rfl) ?_
     refine TL.nil ?_
     refine TQ.then_ ?_
     refine TC.cond_p rfl h (fun hc103 h=>?_) (fun hc103 h=>?_)
     ·
      refine TC.seq ?_
      refine TC.region ?_
      refine TV rfl rfl rfl (Val.fieldAddrB Try.underlying37 rfl fsz3 rfl rfl rfl) ?_
      refine TV rfl rfl rfl (Val.loadB 0 agg3 rfl rfl rfl) ?_
      refine TV rfl rfl rfl (Val.move rfl) ?_
      refine TV rfl rfl rfl (Val.cmp rfl rfl run_sub) ?_
      obtain ⟨y104,hy105,h⟩:=bind_no h
      refine TL.cons (TL.callV (Lin:=[]) (args:=[VI a0.f4,VI 0,VI (IntKind.i64.wrap (a2 - 1))]) rfl rfl rfl hbd14 rfl rfl (code_within.calls (a0:=a0.f4) (a1:=0) (a2:=IntKind.i64.wrap (a2 - 1)) hy105) rfl ?_)
      rintro _ _ _ _ ⟨rfl,rfl,rfl⟩
      refine TV rfl rfl rfl (Val.assign rfl) ?_
      refine TL.nil ?_
      refine TQ.then_ ?_
      refine TC.ret ?_
      refine TQ.inBR ?_
      refine TQ.thenR ?_
      obtain rfl:=Option.some.inj h
      exact TQ.fin (.inl rfl) rfl Try.results31 (.tmp rfl .nil) rfl (FRel.mk (Ls:=[]) [] 2 (Gd.le.refl _) rfl rfl rfl ⟨rfl,rfl,rfl⟩)
     ·
      refine TC.skip ?_
      refine TQ.inB ?_
      refine TQ.then_ ?_
      refine TC.seq ?_
      refine TC.region ?_
      refine TV rfl rfl rfl (Val.fieldAddrB Try.underlying66 rfl fsz4 rfl rfl rfl) ?_
      refine TV rfl rfl rfl (Val.loadB 1 agg4 rfl rfl rfl) ?_
      refine TV rfl rfl rfl (Val.move rfl) ?_
      refine TK.split (p:=a1.f3=true) h (fun hg109 h=>?_) (fun hg109 h=>?_)
      ·
       have hk110:a1.f3=true:=hg109
       refine TL.cons (TL.not (Wt.no rfl rfl rfl hk110) rfl ?_)
       refine TL.cons (TL.not (Wt.no rfl rfl rfl hk110) rfl ?_)
       refine TL.cons (TL.not (Wt.no rfl rfl rfl hk110) rfl ?_)
       refine TV rfl rfl rfl (Val.pickY rfl hk110 rfl) ?_
       refine TV rfl rfl rfl (Val.assign rfl) ?_
       refine TL.nil ?_
       refine TQ.then_ ?_
       refine TC.ret ?_
       obtain rfl:=Option.some.inj h
       exact TQ.fin (.inl rfl) rfl Try.results31 (.tmp rfl .nil) rfl (FRel.mk (Ls:=[]) [] 2 (Gd.le.refl _) rfl rfl rfl ⟨rfl,rfl,rfl⟩)
      ·
       have hk111:a1.f3=false:=(by simpa using hg109)
       refine TV (Wt.yes rfl rfl rfl hk111) rfl rfl (Val.fieldAddrB Try.underlying37 rfl fsz3 rfl rfl rfl) ?_
       refine TV (Wt.yes rfl rfl rfl hk111) rfl rfl (Val.loadB 0 agg3 rfl rfl rfl) ?_
       refine TV (Wt.yes rfl rfl rfl hk111) rfl rfl (Val.cmp rfl rfl run_eql) ?_
       refine TV rfl rfl rfl (Val.pickN rfl hk111 rfl) ?_
       refine TV rfl rfl rfl (Val.assign rfl) ?_
       refine TL.nil ?_
       refine TQ.then_ ?_
       refine TC.ret ?_
       obtain rfl:=Option.some.inj h
       exact TQ.fin (.inl rfl) rfl Try.results31 (.tmp rfl .nil) rfl (FRel.mk (Ls:=[]) [] 2 (Gd.le.refl _) rfl rfl rfl ⟨rfl,rfl,rfl⟩)
  ·
   refine TC.cond_p rfl h (fun hc112 h=>?_) (fun hc112 h=>?_)
   ·
    refine TC.skip ?_
    exact fun a W hF hO=>⟨decide (a0.f0=4),h,hF.sub ⟨rfl,rfl,rfl,rfl,rfl,trivial⟩,hO.selT (Ls:=[Blk b5 [VI a0.f0,VI a0.f1,VI a0.f2,VI a0.f3,VI a0.f4,.slice A1 a0.f5.length c2] 37,Blk b6 [.bool a1.f0,.bool a1.f1,.bool a1.f2,.bool a1.f3] 66]) [1,0] 2 rfl rfl rfl⟩
   ·
    refine TC.region ?_
    refine TV rfl rfl rfl (Val.cmp rfl rfl run_eql) ?_
    refine TV rfl rfl rfl (Val.assign rfl) ?_
    refine TL.nil ?_
    exact fun a W hF hO=>⟨decide (a0.f0=5),h,hF.sub ⟨rfl,rfl,rfl,rfl,rfl,trivial⟩,hO.selT (Ls:=[Blk b5 [VI a0.f0,VI a0.f1,VI a0.f2,VI a0.f3,VI a0.f4,.slice A1 a0.f5.length c2] 37,Blk b6 [.bool a1.f0,.bool a1.f1,.bool a1.f2,.bool a1.f3] 66]) [1,0] 2 rfl rfl rfl⟩
def code_RightOp_1.f (a0:Int):Option Bool:=(code_reg.f a0).bind fun (y1:Bool)=>some (!y1)
def code_RightOp_1.post (G:Gd)  (r:Bool) (v:Value) (G':Gd) (Lr:List Ch):Prop:=G=G'∧v=.bool r∧Lr=[]
theorem code_RightOp_1.calls {G:Gd} {r:Bool} {a0:Int} (h:code_RightOp_1.f a0=some r):Fn Try.prog 33 G [] [VI a0] (code_RightOp_1.post G  r):=by
 refine Fn.intro (e:=[(0,VI a0)]) 6 Try.func33 rfl Try.ntmps33 rfl rfl (Nat.le_of_ble_eq_true rfl) (fun L=>?_)
 unfold code_RightOp_1.f at h
 refine TC.seq ?_
 refine TC.region ?_
 refine TV rfl rfl rfl (Val.assign rfl) ?_
 refine TL.nil ?_
 refine TQ.then_ ?_
 refine TC.seq ?_
 refine TC.region ?_
 refine TV rfl rfl rfl (Val.move rfl) ?_
 obtain ⟨y1,hy2,h⟩:=bind_no h
 refine TL.cons (TL.callV (Lin:=[]) (args:=[VI a0]) rfl rfl rfl hbd27 rfl rfl (code_reg.calls (a0:=a0) hy2) rfl ?_)
 rintro _ _ _ _ ⟨rfl,rfl,rfl⟩
 refine TV rfl rfl rfl (Val.not_ rfl) ?_
 refine TV rfl rfl rfl (Val.assign rfl) ?_
 refine TL.nil ?_
 refine TQ.then_ ?_
 refine TC.ret ?_
 obtain rfl:=Option.some.inj h
 exact TQ.fin (.inl rfl) rfl Try.results33 (.tmp rfl .nil) rfl (FRel.mk (Ls:=[]) [] 0 (Gd.le.refl _) rfl rfl rfl ⟨rfl,rfl,rfl⟩)
def code_RightOp.l0 (a0:S37) (j514:(Int → Option Bool)):Nat → Int → Option (Sum Bool (Unit))
 | 0,_=>none
 | n602 + 1,x572=>(if x572 < (a0.f5.length:Int) then (at? a0.f5 x572).bind fun y646=>(code_RightOp_1.f y646).bind fun (y655:Bool)=>(if y655=true then (j514 x572).bind fun q_=>some (.inl q_) else code_RightOp.l0 a0 j514 n602 (IntKind.i64.wrap (x572 + 1))) else some (.inr ()))
def code_RightOp.f (a0:S37) (a1:Int):Option Bool:=(code_shapeOf.f a0.f0).bind fun (y6:(S66 × Bool))=>jn (γ:=Bool) (fun (x70:Bool)=>(if x70=true then some false else (if (!decide (a0.f0=7))=true then some (decide ((a0.f5.length:Int)=0)) else (if (a0.f5.length:Int) ≤ 8 then jn (γ:=Bool) (fun (x513:Int)=>some (!(decide (0 ≤ x513)))) (fun (j514:(Int → Option Bool))=>(code_RightOp.l0 a0 j514 (a0.f5.length + 1) 0).bind fun | .inl q_=>some q_ | .inr _=>(j514 (-1))) else some false)))) (fun (j71:(Bool → Option Bool))=>(if (!y6.2)=true then j71 (!y6.2) else (code_field.f a0.f1 y6.1.f0).bind fun (y661:Bool)=>(if (!y661)=true then j71 (!y661) else (code_field.f a0.f2 y6.1.f1).bind fun (y673:Bool)=>(if (!y673)=true then j71 (!y673) else (code_field.f a0.f3 y6.1.f2).bind fun (y682:Bool)=>(if (!y682)=true then j71 (!y682) else (code_immediate.f a0 y6.1 a1).bind fun (y688:Bool)=>j71 (!y688))))))
def code_RightOp.post (G:Gd)  (r:Bool) (v:Value) (G':Gd) (Lr:List Ch):Prop:=G=G'∧v=.bool r∧Lr=[]
theorem code_RightOp.calls {G:Gd} {r:Bool} {a0:S37} {a1:Int} {A1:Option Addr} {c2:Nat} (hr3:Rd G kI A1 a0.f5) (hl4:a0.f5.length ≤ c2) (h:code_RightOp.f a0 a1=some r):Fn Try.prog 19 G [] [.agg #[VI a0.f0,VI a0.f1,VI a0.f2,VI a0.f3,VI a0.f4,.slice A1 a0.f5.length c2],VI a1] (code_RightOp.post G  r):=by
 refine Fn.intro (e:=[(0,.agg #[VI a0.f0,VI a0.f1,VI a0.f2,VI a0.f3,VI a0.f4,.slice A1 a0.f5.length c2]),(1,VI a1)]) 57 Try.func19 rfl Try.ntmps19 rfl rfl (Nat.le_of_ble_eq_true rfl) (fun L=>?_)
 unfold code_RightOp.f at h
 refine TC.seq ?_
 refine TC.region ?_
 refine TL.cons (TL.box (cs:=[VI a0.f0,VI a0.f1,VI a0.f2,VI a0.f3,VI a0.f4,.slice A1 a0.f5.length c2]) rfl rfl rfl rfl (fun b5=>?_))
 refine TV rfl rfl rfl (Val.assign rfl) ?_
 refine TL.nil ?_
 refine TQ.then_ ?_
 refine TC.seq ?_
 refine TC.region ?_
 refine TV rfl rfl rfl (Val.fieldAddrB Try.underlying37 rfl fsz3 rfl rfl rfl) ?_
 refine TV rfl rfl rfl (Val.loadB 0 agg3 rfl rfl rfl) ?_
 obtain ⟨y6,hy7,h⟩:=bind_no h
 refine TL.cons (TL.callV (Lin:=[]) (args:=[VI a0.f0]) rfl rfl rfl hbd29 rfl rfl (code_shapeOf.calls (a0:=a0.f0) hy7) rfl ?_)
 rintro _ _ _ _ ⟨rfl,rfl,rfl⟩
 refine TV rfl rfl rfl (Val.move rfl) ?_
 refine TV rfl rfl rfl (Val.extract rfl rfl) ?_
 refine TV rfl rfl rfl (Val.extract rfl rfl) ?_
 refine TL.cons (TL.alloc (cs:=[.bool false,.bool false,.bool false,.bool false]) rfl rfl zr66 rfl (fun b8=>?_))
 refine TL.cons (TL.store 0 (ds:=[.bool y6.1.f0,.bool y6.1.f1,.bool y6.1.f2,.bool y6.1.f3]) (cs':=[.bool y6.1.f0,.bool y6.1.f1,.bool y6.1.f2,.bool y6.1.f3]) (L':=(Blk b8 [.bool y6.1.f0,.bool y6.1.f1,.bool y6.1.f2,.bool y6.1.f3] 66::Blk b5 [VI a0.f0,VI a0.f1,VI a0.f2,VI a0.f3,VI a0.f4,.slice A1 a0.f5.length c2] 37::L)) rfl fsz66 rfl rfl rfl rfl rfl (Nat.le_of_ble_eq_true rfl) rfl rfl ?_)
 refine TV rfl rfl rfl (Val.assign rfl) ?_
 refine TL.nil ?_
 refine TQ.then_ ?_
 refine TC.seq ?_
 refine TC.block ?_
 refine TC.seq ?_
 refine TC.seq ?_
 refine TC.region ?_
 refine TV rfl rfl rfl (Val.move rfl) ?_
 refine TV rfl rfl rfl (Val.not_ rfl) ?_
 refine TV rfl rfl rfl (Val.assign rfl) ?_
 refine TL.nil ?_
 refine TQ.then_ ?_
 obtain ⟨j71,hj71,h⟩:=jn_no h
 refine TC.tail (fun a W=>∃ (x70:Bool),j71 x70=some r∧Fr 57 a [(2,VP b5 0),(13,.bool x70)]∧Own G (Blk b5 [VI a0.f0,VI a0.f1,VI a0.f2,VI a0.f3,VI a0.f4,.slice A1 a0.f5.length c2] 37::L) W) ?_ ?_
 ·
  rintro a W ⟨x70,h,hF,hO⟩
  rw [hj71] at h
  refine TQ.use ?_ hF hO
  clear hF hO
  refine TQ.then_ ?_
  refine TC.cond_b rfl h (fun hc74 h=>?_) (fun hc74 h=>?_)
  ·
   refine TC.seq ?_
   refine TC.region ?_
   refine TV rfl rfl rfl (Val.assign rfl) ?_
   refine TL.nil ?_
   refine TQ.then_ ?_
   refine TC.ret ?_
   refine TQ.inBR ?_
   refine TQ.thenR ?_
   obtain rfl:=Option.some.inj h
   exact TQ.fin (.inl rfl) rfl Try.results19 (.tmp rfl .nil) rfl (FRel.mk (Ls:=[]) [] 1 (Gd.le.refl _) rfl rfl rfl ⟨rfl,rfl,rfl⟩)
  ·
   refine TC.seq ?_
   refine TC.region ?_
   refine TV rfl rfl rfl (Val.fieldAddrB Try.underlying37 rfl fsz3 rfl rfl rfl) ?_
   refine TV rfl rfl rfl (Val.loadB 0 agg3 rfl rfl rfl) ?_
   refine TV rfl rfl rfl (Val.cmp rfl rfl run_neq) ?_
   refine TV rfl rfl rfl (Val.assign rfl) ?_
   refine TL.nil ?_
   refine TQ.then_ ?_
   refine TC.cond_b rfl h (fun hc76 h=>?_) (fun hc76 h=>?_)
   ·
    refine TC.seq ?_
    refine TC.region ?_
    refine TV rfl rfl rfl (Val.fieldAddrB Try.underlying37 rfl fsz25 rfl rfl rfl) ?_
    refine TV rfl rfl rfl (Val.loadB 0 agg25 rfl rfl rfl) ?_
    refine TV rfl rfl rfl (Val.len Try.underlying25 rfl) ?_
    refine TV rfl rfl rfl (Val.cmp rfl rfl run_eql) ?_
    refine TV rfl rfl rfl (Val.assign rfl) ?_
    refine TL.nil ?_
    refine TQ.then_ ?_
    refine TC.ret ?_
    refine TQ.inBR ?_
    refine TQ.thenR ?_
    obtain rfl:=Option.some.inj h
    exact TQ.fin (.inl rfl) rfl Try.results19 (.tmp rfl .nil) rfl (FRel.mk (Ls:=[]) [] 1 (Gd.le.refl _) rfl rfl rfl ⟨rfl,rfl,rfl⟩)
   ·
    refine TC.skip ?_
    refine TQ.inB ?_
    refine TQ.then_ ?_
    refine TC.seq ?_
    refine TC.region ?_
    refine TV rfl rfl rfl (Val.fieldAddrB Try.underlying37 rfl fsz25 rfl rfl rfl) ?_
    refine TV rfl rfl rfl (Val.loadB 0 agg25 rfl rfl rfl) ?_
    refine TV rfl rfl rfl (Val.len Try.underlying25 rfl) ?_
    refine TV rfl rfl rfl (Val.cmp rfl rfl run_leq) ?_
    refine TV rfl rfl rfl (Val.move rfl) ?_
    refine TK.split (p:=(a0.f5.length:Int) ≤ 8) h (fun hg296 h=>?_) (fun hg296 h=>?_)
    ·
     have hk297:decide ((a0.f5.length:Int) ≤ 8)=true:=decide_eq_true hg296
     refine TV (Wt.yes rfl rfl rfl hk297) rfl rfl (Val.fieldAddrB Try.underlying37 rfl fsz25 rfl rfl rfl) ?_
     refine TV (Wt.yes rfl rfl rfl hk297) rfl rfl (Val.loadB 0 agg25 rfl rfl rfl) ?_
     refine TL.cons (TO.inl (args:=[.slice A1 a0.f5.length c2,.func (.func 33) #[] #[]]) (e':=[(0,.slice A1 a0.f5.length c2),(1,.func (.func 33) #[] #[])]) 9 (Wt.yes rfl rfl rfl hk297) rfl hbd32 rfl rfl Try.func32 rfl Try.ntmps32 rfl rfl (Nat.le_of_ble_eq_true rfl) (fun a298 hf299=>?_))
     refine TC.seq ?_
     refine TC.region ?_
     refine TV rfl rfl rfl (Val.assign rfl) ?_
     refine TL.nil ?_
     refine TQ.then_ ?_
     refine TC.seq ?_
     refine TC.region ?_
     refine TV rfl rfl rfl (Val.move rfl) ?_
     refine TV rfl rfl rfl (Val.move rfl) ?_
     refine TL.cons (TO.inl (args:=[.slice A1 a0.f5.length c2,.func (.func 33) #[] #[]]) (e':=[(0,.slice A1 a0.f5.length c2),(1,.func (.func 33) #[] #[])]) 19 rfl rfl hbd38 rfl rfl Try.func38 rfl Try.ntmps38 rfl rfl (Nat.le_of_ble_eq_true rfl) (fun a428 hf429=>?_))
     obtain ⟨j514,hj514,h⟩:=jn_no h
     refine TC.after (fun en W=>∃ (x513:Int),j514 x513=some r∧en=.returned (VI x513)∧Own G (Blk b5 [VI a0.f0,VI a0.f1,VI a0.f2,VI a0.f3,VI a0.f4,.slice A1 a0.f5.length c2] 37::L) W) ?_ ?_
     ·
      rintro en W ⟨x513,h,rfl,hO⟩
      rw [hj514] at h
      refine (After.mk hf429 rfl ?_) W hO
      clear hO
      refine TV rfl rfl rfl (Val.cmp rfl rfl run_geq) ?_
      refine TV rfl rfl rfl (Val.assign rfl) ?_
      refine TL.nil ?_
      refine TQ.then_ ?_
      refine TC.ret ?_
      refine TQ.fin (v:=.bool (decide (0 ≤ x513))) (.inl rfl) rfl Try.results32 (.tmp rfl .nil) rfl (After.mk hf299 rfl ?_)
      refine TV (Wt.yes rfl rfl rfl hk297) rfl rfl (Val.not_ rfl) ?_
      refine TV rfl rfl rfl (Val.pickY rfl hk297 rfl) ?_
      refine TV rfl rfl rfl (Val.assign rfl) ?_
      refine TL.nil ?_
      refine TQ.then_ ?_
      refine TC.ret ?_
      obtain rfl:=Option.some.inj h
      exact TQ.fin (.inl rfl) rfl Try.results19 (.tmp rfl .nil) rfl (FRel.mk (Ls:=[]) [] 1 (Gd.le.refl _) rfl rfl rfl ⟨rfl,rfl,rfl⟩)
     ·
      refine TC.seq ?_
      refine TC.region ?_
      refine TV rfl rfl rfl (Val.assign rfl) ?_
      refine TL.nil ?_
      refine TQ.then_ ?_
      refine TC.seq ?_
      refine TC.seq ?_
      refine TC.region ?_
      refine TV rfl rfl rfl (Val.move rfl) ?_
      refine TV rfl rfl rfl (Val.len Try.underlying25 rfl) ?_
      refine TV rfl rfl rfl (Val.move rfl) ?_
      refine TL.nil ?_
      refine TQ.then_ ?_
      obtain ⟨o601,ho601,ko601⟩:=bind_no h
      clear h
      refine TC.tail (fun a W=>(.inr ())=o601∧Fr 19 a []∧Own G (Blk b5 [VI a0.f0,VI a0.f1,VI a0.f2,VI a0.f3,VI a0.f4,.slice A1 a0.f5.length c2] 37::L) W) ?_ ?_
      ·
       rintro a W ⟨rfl,hF,hO⟩
       have h:=ko601
       clear ko601 ho601
       refine TQ.use ?_ hF hO
       clear hF hO
       refine TQ.then_ ?_
       refine TC.seq ?_
       refine TC.region ?_
       refine TV rfl rfl rfl (Val.assign rfl) ?_
       refine TL.nil ?_
       refine TQ.then_ ?_
       refine TC.ret ?_
       exact TQ.fin (v:=VI (-1)) (.inl rfl) rfl Try.results38 (.tmp rfl .nil) rfl (fun W hO=>⟨(-1),h,rfl,hO.selT (Ls:=[Blk b5 [VI a0.f0,VI a0.f1,VI a0.f2,VI a0.f3,VI a0.f4,.slice A1 a0.f5.length c2] 37]) [0] 1 rfl rfl rfl⟩)
      ·
       refine TC.block ?_
       intro a W hF hO
       have hS:∃ (x572:Int),code_RightOp.l0 a0 j514 (a0.f5.length + 1) x572=some o601∧Fr 19 a [(0,.slice A1 a0.f5.length c2),(1,.func (.func 33) #[] #[]),(7,VI (a0.f5.length:Int)),(8,VI x572)]∧Own G (Blk b5 [VI a0.f0,VI a0.f1,VI a0.f2,VI a0.f3,VI a0.f4,.slice A1 a0.f5.length c2] 37::L) W:=by
        exact ⟨0,ho601,hF.sub ⟨rfl,rfl,rfl,rfl,trivial⟩,hO.selT (Ls:=[Blk b5 [VI a0.f0,VI a0.f1,VI a0.f2,VI a0.f3,VI a0.f4,.slice A1 a0.f5.length c2] 37]) [0] 1 rfl rfl rfl⟩
       clear hF hO ho601
       refine TC.loop (fun n602 a W=>∃ (x572:Int),code_RightOp.l0 a0 j514 n602 x572=some o601∧Fr 19 a [(0,.slice A1 a0.f5.length c2),(1,.func (.func 33) #[] #[]),(7,VI (a0.f5.length:Int)),(8,VI x572)]∧Own G (Blk b5 [VI a0.f0,VI a0.f1,VI a0.f2,VI a0.f3,VI a0.f4,.slice A1 a0.f5.length c2] 37::L) W) ?_ ?_ hS
       ·
        rintro a W ⟨x572,h,hF,hO⟩
        exact none_no h
       ·
        clear hS
        rintro n602 a W ⟨x572,h,hF,hO⟩
        rw [code_RightOp.l0] at h
        refine TC.use ?_ hF hO
        clear hF hO
        refine TC.seq ?_
        refine TC.region ?_
        refine TV rfl rfl rfl (Val.cmp rfl rfl run_lss) ?_
        refine TL.nil ?_
        refine TQ.then_ ?_
        refine TC.seq ?_
        refine TC.cond_p rfl h (fun hc632 h=>?_) (fun hc632 h=>?_)
        ·
         refine TC.skip ?_
         refine TQ.then_ ?_
         refine TC.seq ?_
         refine TC.block ?_
         refine TC.seq ?_
         refine TC.region ?_
         refine TV rfl rfl rfl (Val.move rfl) ?_
         refine TV rfl rfl rfl (Val.assign rfl) ?_
         refine TL.nil ?_
         refine TQ.then_ ?_
         refine TC.seq ?_
         refine TC.region ?_
         refine TV rfl rfl rfl (Val.move rfl) ?_
         refine TV rfl rfl rfl (Val.move rfl) ?_
         refine TV rfl rfl rfl (Val.move rfl) ?_
         obtain ⟨y646,hx647,h⟩:=bind_no h
         obtain ⟨ad648,cs654,hA649,hi650,hj651,hcl652,hK653⟩:=Rd.at hr3 hx647
         obtain rfl:=RdK.int hK653
         refine TV rfl rfl rfl (Val.indexAddr Try.underlying25 fsz3 rfl hA649 rfl hi650 hj651) ?_
         refine TV rfl rfl rfl (Val.loadS agg3 rfl (hcl652 0 _ rfl)) ?_
         obtain ⟨y655,hy656,h⟩:=bind_no h
         refine TL.cons (TL.callV (Lin:=[]) (args:=[VI y646]) rfl rfl rfl hbd33 rfl rfl (code_RightOp_1.calls (a0:=y646) hy656) rfl ?_)
         rintro _ _ _ _ ⟨rfl,rfl,rfl⟩
         refine TL.nil ?_
         refine TQ.then_ ?_
         refine TC.cond_b rfl h (fun hc658 h=>?_) (fun hc658 h=>?_)
         ·
          refine TC.seq ?_
          refine TC.region ?_
          refine TV rfl rfl rfl (Val.move rfl) ?_
          refine TV rfl rfl rfl (Val.assign rfl) ?_
          refine TL.nil ?_
          refine TQ.then_ ?_
          refine TC.ret ?_
          refine TQ.inBR ?_
          refine TQ.thenR ?_
          refine TQ.thenR ?_
          refine TQ.inBR ?_
          refine TQ.thenR ?_
          refine TQ.thenR ?_
          obtain ⟨q_,hq_,h⟩:=bind_no h
          obtain rfl:=Option.some.inj h
          have h:=ko601
          obtain rfl:=Option.some.inj h
          have h:=hq_
          clear hq_
          exact TQ.fin (v:=VI x572) (.inl rfl) rfl Try.results38 (.tmp rfl .nil) rfl (fun W hO=>⟨x572,h,rfl,hO.selT (Ls:=[Blk b5 [VI a0.f0,VI a0.f1,VI a0.f2,VI a0.f3,VI a0.f4,.slice A1 a0.f5.length c2] 37]) [0] 1 rfl rfl rfl⟩)
         ·
          refine TC.skip ?_
          refine TQ.inB ?_
          refine TQ.then_ ?_
          refine TC.region ?_
          refine TV rfl rfl rfl (Val.cmp rfl rfl run_add) ?_
          refine TV rfl rfl rfl (Val.move rfl) ?_
          refine TL.nil ?_
          exact fun a W hF hO=>⟨IntKind.i64.wrap (x572 + 1),h,hF.sub ⟨rfl,rfl,rfl,rfl,trivial⟩,hO.selT (Ls:=[Blk b5 [VI a0.f0,VI a0.f1,VI a0.f2,VI a0.f3,VI a0.f4,.slice A1 a0.f5.length c2] 37]) [0] 1 rfl rfl rfl⟩
        ·
         refine TC.exit ?_
         refine TQ.thenX ?_
         refine TQ.thenX ?_
         refine TQ.inBX ?_
         exact fun a W hF hO=>⟨Option.some.inj h,hF.sub trivial,hO.selT (Ls:=[Blk b5 [VI a0.f0,VI a0.f1,VI a0.f2,VI a0.f3,VI a0.f4,.slice A1 a0.f5.length c2] 37]) [0] 1 rfl rfl rfl⟩
    ·
     have hk659:decide ((a0.f5.length:Int) ≤ 8)=false:=decide_eq_false hg296
     refine TL.cons (TL.not (Wt.no rfl rfl rfl hk659) rfl ?_)
     refine TL.cons (TL.not (Wt.no rfl rfl rfl hk659) rfl ?_)
     refine TL.cons (TL.not (Wt.no rfl rfl rfl hk659) rfl ?_)
     refine TL.cons (TL.not (Wt.no rfl rfl rfl hk659) rfl ?_)
     refine TV rfl rfl rfl (Val.pickN rfl hk659 rfl) ?_
     refine TV rfl rfl rfl (Val.assign rfl) ?_
     refine TL.nil ?_
     refine TQ.then_ ?_
     refine TC.ret ?_
     obtain rfl:=Option.some.inj h
     exact TQ.fin (.inl rfl) rfl Try.results19 (.tmp rfl .nil) rfl (FRel.mk (Ls:=[]) [] 1 (Gd.le.refl _) rfl rfl rfl ⟨rfl,rfl,rfl⟩)
 ·
  refine TC.cond_b rfl h (fun hc660 h=>?_) (fun hc660 h=>?_)
  ·
   refine TC.skip ?_
   exact fun a W hF hO=>⟨(!y6.2),h,hF.sub ⟨rfl,rfl,trivial⟩,hO.selT (Ls:=[Blk b5 [VI a0.f0,VI a0.f1,VI a0.f2,VI a0.f3,VI a0.f4,.slice A1 a0.f5.length c2] 37]) [1] 2 rfl rfl rfl⟩
  ·
   refine TC.seq ?_
   refine TC.region ?_
   refine TV rfl rfl rfl (Val.fieldAddrB Try.underlying37 rfl fsz3 rfl rfl rfl) ?_
   refine TV rfl rfl rfl (Val.loadB 1 agg3 rfl rfl rfl) ?_
   refine TV rfl rfl rfl (Val.fieldAddrB Try.underlying66 rfl fsz4 rfl rfl rfl) ?_
   refine TV rfl rfl rfl (Val.loadB 0 agg4 rfl rfl rfl) ?_
   obtain ⟨y661,hy662,h⟩:=bind_no h
   refine TL.cons (TL.callV (Lin:=[]) (args:=[VI a0.f1,.bool y6.1.f0]) rfl rfl rfl hbd30 rfl rfl (code_field.calls (a0:=a0.f1) (a1:=y6.1.f0) hy662) rfl ?_)
   rintro _ _ _ _ ⟨rfl,rfl,rfl⟩
   refine TV rfl rfl rfl (Val.not_ rfl) ?_
   refine TV rfl rfl rfl (Val.assign rfl) ?_
   refine TL.nil ?_
   refine TQ.then_ ?_
   refine TC.cond_b rfl h (fun hc672 h=>?_) (fun hc672 h=>?_)
   ·
    refine TC.skip ?_
    exact fun a W hF hO=>⟨(!y661),h,hF.sub ⟨rfl,rfl,trivial⟩,hO.selT (Ls:=[Blk b5 [VI a0.f0,VI a0.f1,VI a0.f2,VI a0.f3,VI a0.f4,.slice A1 a0.f5.length c2] 37]) [1] 2 rfl rfl rfl⟩
   ·
    refine TC.seq ?_
    refine TC.region ?_
    refine TV rfl rfl rfl (Val.fieldAddrB Try.underlying37 rfl fsz3 rfl rfl rfl) ?_
    refine TV rfl rfl rfl (Val.loadB 1 agg3 rfl rfl rfl) ?_
    refine TV rfl rfl rfl (Val.fieldAddrB Try.underlying66 rfl fsz4 rfl rfl rfl) ?_
    refine TV rfl rfl rfl (Val.loadB 0 agg4 rfl rfl rfl) ?_
    obtain ⟨y673,hy674,h⟩:=bind_no h
    refine TL.cons (TL.callV (Lin:=[]) (args:=[VI a0.f2,.bool y6.1.f1]) rfl rfl rfl hbd30 rfl rfl (code_field.calls (a0:=a0.f2) (a1:=y6.1.f1) hy674) rfl ?_)
    rintro _ _ _ _ ⟨rfl,rfl,rfl⟩
    refine TV rfl rfl rfl (Val.not_ rfl) ?_
    refine TV rfl rfl rfl (Val.assign rfl) ?_
    refine TL.nil ?_
    refine TQ.then_ ?_
    refine TC.cond_b rfl h (fun hc681 h=>?_) (fun hc681 h=>?_)
    ·
     refine TC.skip ?_
     exact fun a W hF hO=>⟨(!y673),h,hF.sub ⟨rfl,rfl,trivial⟩,hO.selT (Ls:=[Blk b5 [VI a0.f0,VI a0.f1,VI a0.f2,VI a0.f3,VI a0.f4,.slice A1 a0.f5.length c2] 37]) [1] 2 rfl rfl rfl⟩
    ·
     refine TC.seq ?_
     refine TC.region ?_
     refine TV rfl rfl rfl (Val.fieldAddrB Try.underlying37 rfl fsz3 rfl rfl rfl) ?_
     refine TV rfl rfl rfl (Val.loadB 1 agg3 rfl rfl rfl) ?_
     refine TV rfl rfl rfl (Val.fieldAddrB Try.underlying66 rfl fsz4 rfl rfl rfl) ?_
     refine TV rfl rfl rfl (Val.loadB 0 agg4 rfl rfl rfl) ?_
     obtain ⟨y682,hy683,h⟩:=bind_no h
     refine TL.cons (TL.callV (Lin:=[]) (args:=[VI a0.f3,.bool y6.1.f2]) rfl rfl rfl hbd30 rfl rfl (code_field.calls (a0:=a0.f3) (a1:=y6.1.f2) hy683) rfl ?_)
     rintro _ _ _ _ ⟨rfl,rfl,rfl⟩
     refine TV rfl rfl rfl (Val.not_ rfl) ?_
     refine TV rfl rfl rfl (Val.assign rfl) ?_
     refine TL.nil ?_
     refine TQ.then_ ?_
     refine TC.cond_b rfl h (fun hc687 h=>?_) (fun hc687 h=>?_)
     ·
      refine TC.skip ?_
      exact fun a W hF hO=>⟨(!y682),h,hF.sub ⟨rfl,rfl,trivial⟩,hO.selT (Ls:=[Blk b5 [VI a0.f0,VI a0.f1,VI a0.f2,VI a0.f3,VI a0.f4,.slice A1 a0.f5.length c2] 37]) [1] 2 rfl rfl rfl⟩
     ·
      refine TC.region ?_
      refine TV rfl rfl rfl (Val.loadsB 1 (cs:=[VI a0.f0,VI a0.f1,VI a0.f2,VI a0.f3,VI a0.f4,.slice A1 a0.f5.length c2]) agg37 fsz37 rfl rfl rfl rfl) ?_
      refine TV rfl rfl rfl (Val.loadsB 0 (cs:=[.bool y6.1.f0,.bool y6.1.f1,.bool y6.1.f2,.bool y6.1.f3]) agg66 fsz66 rfl rfl rfl rfl) ?_
      refine TV rfl rfl rfl (Val.move rfl) ?_
      obtain ⟨y688,hy689,h⟩:=bind_no h
      refine TL.cons (TL.callV (Lin:=[]) (args:=[.agg #[VI a0.f0,VI a0.f1,VI a0.f2,VI a0.f3,VI a0.f4,.slice A1 a0.f5.length c2],.agg #[.bool y6.1.f0,.bool y6.1.f1,.bool y6.1.f2,.bool y6.1.f3],VI a1]) rfl rfl rfl hbd31 rfl rfl (code_immediate.calls (a0:=a0) (a1:=y6.1) (a2:=a1) hr3 hl4 hy689) rfl ?_)
      rintro _ _ _ _ ⟨rfl,rfl,rfl⟩
      refine TV rfl rfl rfl (Val.not_ rfl) ?_
      refine TV rfl rfl rfl (Val.assign rfl) ?_
      refine TL.nil ?_
      exact fun a W hF hO=>⟨(!y688),h,hF.sub ⟨rfl,rfl,trivial⟩,hO.selT (Ls:=[Blk b5 [VI a0.f0,VI a0.f1,VI a0.f2,VI a0.f3,VI a0.f4,.slice A1 a0.f5.length c2] 37]) [1] 2 rfl rfl rfl⟩
def code_Right.l1 (a1:Int) (y2387:S35):Nat → Int → Int → Option (Sum (Sum Bool (Int)) (Int))
 | 0,_,_=>none
 | n2662 + 1,x2573,x2574=>(if x2573 < (y2387.f0.length:Int) then (at? y2387.f0 x2573).bind fun y2794=>jn (γ:=(Sum (Sum Bool (Int)) (Int))) (fun (x2830:Bool)=>(if x2830=true then some (.inl (.inl false)) else code_Right.l1 a1 y2387 n2662 (IntKind.i64.wrap (x2573 + 1)) (IntKind.i64.wrap (x2574 + 1)))) (fun (j2831:(Bool → Option (Sum (Sum Bool (Int)) (Int))))=>(if 16384 < (IntKind.i64.wrap (x2574 + 1)) then j2831 true else (code_RightOp.f y2794 a1).bind fun (y2838:Bool)=>j2831 (!y2838))) else some (.inr x2574))
def code_Right.l0 (a0:S24) (a1:Int):Nat → Int → Int → Option (Sum Bool (Int))
 | 0,_,_=>none
 | n1880 + 1,x1575,x1576=>(if x1575 < (a0.f1.length:Int) then (at? a0.f1 x1575).bind fun y2387=>(code_Right.l1 a1 y2387 (y2387.f0.length + 1) 0 x1576).bind fun | .inl q_=>some q_ | .inr x2660=>(code_Right.l0 a0 a1 n1880 (IntKind.i64.wrap (x1575 + 1)) x2660) else some (.inr x1576))
def code_Right.l2 (a0:S24) (j387:(Int → Option Bool)):Nat → Int → Option (Sum Bool (Unit))
 | 0,_=>none
 | n2987 + 1,x2937=>(if x2937 < (a0.f1.length:Int) then (at? a0.f1 x2937).bind fun y3061=>(code_rightTerm.f y3061.f1 (a0.f1.length:Int)).bind fun (y3080:Bool)=>(if (!y3080)=true then (j387 x2937).bind fun q_=>some (.inl q_) else code_Right.l2 a0 j387 n2987 (IntKind.i64.wrap (x2937 + 1))) else some (.inr ()))
def code_Right.f (a0:S24) (a1:Int):Option Bool:=jn (γ:=Bool) (fun (x16:Bool)=>(if x16=true then some false else jn (γ:=Bool) (fun (x386:Int)=>(if 0 ≤ x386 then some false else (code_Right.l0 a0 a1 (a0.f1.length + 1) 0 0).bind fun | .inl q_=>some q_ | .inr x1878=>(some true))) (fun (j387:(Int → Option Bool))=>(code_Right.l2 a0 j387 (a0.f1.length + 1) 0).bind fun | .inl q_=>some q_ | .inr _=>(j387 (-1))))) (fun (j17:(Bool → Option Bool))=>(code_within.f (a0.f1.length:Int) 1 4096).bind fun (y3084:Bool)=>(if (!y3084)=true then j17 true else (code_within.f a0.f0 0 8).bind fun (y3089:Bool)=>j17 (!y3089)))
def code_Right.post (G:Gd)  (r:Bool) (v:Value) (G':Gd) (Lr:List Ch):Prop:=G=G'∧v=.bool r∧Lr=[]
theorem code_Right.calls {G:Gd} {r:Bool} {a0:S24} {a1:Int} {A1:Option Addr} {c2:Nat} (hr3:Rd G k35 A1 a0.f1) (hl4:a0.f1.length ≤ c2) (h:code_Right.f a0 a1=some r):Fn Try.prog 6 G [] [.agg #[VI a0.f0,.slice A1 a0.f1.length c2],VI a1] (code_Right.post G  r):=by
 refine Fn.intro (e:=[(0,.agg #[VI a0.f0,.slice A1 a0.f1.length c2]),(1,VI a1)]) 35 Try.func6 rfl Try.ntmps6 rfl rfl (Nat.le_of_ble_eq_true rfl) (fun L=>?_)
 unfold code_Right.f at h
 refine TC.new (ch:=Mk []) Mk.nil ?_
 refine TC.seq ?_
 refine TC.region ?_
 refine TL.cons (TL.box (cs:=[VI a0.f0,.slice A1 a0.f1.length c2]) rfl rfl rfl rfl (fun b6=>?_))
 refine TL.cons (TL.box (cs:=[VI a1]) rfl rfl rfl rfl (fun b7=>?_))
 refine TL.cons (TL.alloc (cs:=[.bool false]) rfl rfl zr4 rfl (fun b8=>?_))
 refine TL.nil ?_
 refine TQ.then_ ?_
 refine TC.seq ?_
 refine TC.seq ?_
 obtain ⟨j17,hj17,h⟩:=jn_no h
 refine TC.tail (fun a W=>∃ (x16:Bool),j17 x16=some r∧Fr (⟨35,List.map mark []⟩:Nd) a [(2,VP b6 0),(3,VP b7 0),(4,VP b8 0),(17,.bool x16)]∧Own G (Blk b6 [VI a0.f0,.slice A1 a0.f1.length c2] 24::Blk b7 [VI a1] 3::Blk b8 [.bool false] 4::Mk []::L) W) ?_ ?_
 ·
  rintro a W ⟨x16,h,hF,hO⟩
  rw [hj17] at h
  refine TQ.use ?_ hF hO
  clear hF hO
  refine TQ.then_ ?_
  refine TC.cond_b rfl h (fun hc19 h=>?_) (fun hc19 h=>?_)
  ·
   refine TC.seq ?_
   refine TC.region ?_
   refine TL.cons (TL.store 2 (ds:=[.bool false]) (cs':=[.bool false]) (L':=(Blk b6 [VI a0.f0,.slice A1 a0.f1.length c2] 24::Blk b7 [VI a1] 3::Blk b8 [.bool false] 4::Mk []::L)) rfl fsz4 rfl rfl rfl rfl rfl (Nat.le_of_ble_eq_true rfl) rfl rfl ?_)
   refine TL.nil ?_
   refine TQ.then_ ?_
   refine TC.ret ?_
   refine TQ.thenR ?_
   refine TQ.finL (ds:=List.map mark []) (.inl rfl) rfl (fun a_ hx20=>?_)
   refine Lv.marks (L':=(Blk b6 [VI a0.f0,.slice A1 a0.f1.length c2] 24::Blk b7 [VI a1] 3::Blk b8 [.bool false] 4::Emp::L)) 3 rfl rfl ?_
   obtain rfl:=Option.some.inj h
   exact Lv.nil hx20 Try.results6 (.cell 2 rfl rfl agg4 rfl .nil) rfl (FRel.mk (Ls:=[]) [] 4 (Gd.le.refl _) rfl rfl rfl ⟨rfl,rfl,rfl⟩)
  ·
   refine TC.skip ?_
   refine TQ.then_ ?_
   refine TC.seq ?_
   refine TC.seq ?_
   refine TC.region ?_
   refine TV rfl rfl rfl (Val.fieldAddrB Try.underlying24 rfl fsz22 rfl rfl rfl) ?_
   refine TV rfl rfl rfl (Val.loadB 0 agg22 rfl rfl rfl) ?_
   refine TV rfl rfl rfl (Val.makeFunc (xs:=[]) (ys:=[VP b6 0]) rfl rfl) ?_
   refine TL.cons (TO.inl (args:=[.slice A1 a0.f1.length c2,.func (.func 16) #[] #[VP b6 0]]) (e':=[(0,.slice A1 a0.f1.length c2),(1,.func (.func 16) #[] #[VP b6 0])]) 9 rfl rfl hbd15 rfl rfl Try.func15 rfl Try.ntmps15 rfl rfl (Nat.le_of_ble_eq_true rfl) (fun a21 hf22=>?_))
   refine TC.seq ?_
   refine TC.region ?_
   refine TV rfl rfl rfl (Val.assign rfl) ?_
   refine TL.nil ?_
   refine TQ.then_ ?_
   refine TC.seq ?_
   refine TC.region ?_
   refine TV rfl rfl rfl (Val.move rfl) ?_
   refine TV rfl rfl rfl (Val.move rfl) ?_
   refine TL.cons (TO.inl (args:=[.slice A1 a0.f1.length c2,.func (.func 16) #[] #[VP b6 0]]) (e':=[(0,.slice A1 a0.f1.length c2),(1,.func (.func 16) #[] #[VP b6 0])]) 19 rfl rfl hbd25 rfl rfl Try.func25 rfl Try.ntmps25 rfl rfl (Nat.le_of_ble_eq_true rfl) (fun a241 hf242=>?_))
   obtain ⟨j387,hj387,h⟩:=jn_no h
   refine TC.after (fun en W=>∃ (x386:Int),j387 x386=some r∧en=.returned (VI x386)∧Own G (Blk b6 [VI a0.f0,.slice A1 a0.f1.length c2] 24::Blk b7 [VI a1] 3::Blk b8 [.bool false] 4::Mk []::L) W) ?_ ?_
   ·
    rintro en W ⟨x386,h,rfl,hO⟩
    rw [hj387] at h
    refine (After.mk hf242 rfl ?_) W hO
    clear hO
    refine TV rfl rfl rfl (Val.cmp rfl rfl run_geq) ?_
    refine TV rfl rfl rfl (Val.assign rfl) ?_
    refine TL.nil ?_
    refine TQ.then_ ?_
    refine TC.ret ?_
    refine TQ.fin (v:=.bool (decide (0 ≤ x386))) (.inl rfl) rfl Try.results15 (.tmp rfl .nil) rfl (After.mk hf22 rfl ?_)
    refine TL.nil ?_
    refine TQ.then_ ?_
    refine TC.cond_p rfl h (fun hc389 h=>?_) (fun hc389 h=>?_)
    ·
     refine TC.seq ?_
     refine TC.region ?_
     refine TL.cons (TL.store 2 (ds:=[.bool false]) (cs':=[.bool false]) (L':=(Blk b6 [VI a0.f0,.slice A1 a0.f1.length c2] 24::Blk b7 [VI a1] 3::Blk b8 [.bool false] 4::Mk []::L)) rfl fsz4 rfl rfl rfl rfl rfl (Nat.le_of_ble_eq_true rfl) rfl rfl ?_)
     refine TL.nil ?_
     refine TQ.then_ ?_
     refine TC.ret ?_
     refine TQ.thenR ?_
     refine TQ.finL (ds:=List.map mark []) (.inl rfl) rfl (fun a_ hx390=>?_)
     refine Lv.marks (L':=(Blk b6 [VI a0.f0,.slice A1 a0.f1.length c2] 24::Blk b7 [VI a1] 3::Blk b8 [.bool false] 4::Emp::L)) 3 rfl rfl ?_
     obtain rfl:=Option.some.inj h
     exact Lv.nil hx390 Try.results6 (.cell 2 rfl rfl agg4 rfl .nil) rfl (FRel.mk (Ls:=[]) [] 4 (Gd.le.refl _) rfl rfl rfl ⟨rfl,rfl,rfl⟩)
    ·
     refine TC.skip ?_
     refine TQ.then_ ?_
     refine TC.seq ?_
     refine TC.region ?_
     refine TL.cons (TL.alloc (cs:=[VI 0]) rfl rfl zr3 rfl (fun b391=>?_))
     refine TL.cons (TL.store 0 (ds:=[VI 0]) (cs':=[VI 0]) (L':=(Blk b391 [VI 0] 3::Blk b6 [VI a0.f0,.slice A1 a0.f1.length c2] 24::Blk b7 [VI a1] 3::Blk b8 [.bool false] 4::Mk []::L)) rfl fsz3 rfl rfl rfl rfl rfl (Nat.le_of_ble_eq_true rfl) rfl rfl ?_)
     refine TL.nil ?_
     refine TQ.then_ ?_
     refine TC.seq ?_
     refine TC.seq ?_
     refine TC.region ?_
     refine TV rfl rfl rfl (Val.loadsB 1 (cs:=[VI a0.f0,.slice A1 a0.f1.length c2]) agg24 fsz24 rfl rfl rfl rfl) ?_
     refine TL.cons (TO.inl (args:=[.agg #[VI a0.f0,.slice A1 a0.f1.length c2]]) (e':=[(0,.agg #[VI a0.f0,.slice A1 a0.f1.length c2])]) 4 rfl rfl hbd18 rfl rfl Try.func18 rfl Try.ntmps18 rfl rfl (Nat.le_of_ble_eq_true rfl) (fun a392 hf393=>?_))
     refine TC.seq ?_
     refine TC.region ?_
     refine TL.cons (TL.box (cs:=[VI a0.f0,.slice A1 a0.f1.length c2]) rfl rfl rfl rfl (fun b395=>?_))
     refine TV rfl rfl rfl (Val.assign rfl) ?_
     refine TL.nil ?_
     refine TQ.then_ ?_
     refine TC.seq ?_
     refine TC.region ?_
     refine TV rfl rfl rfl (Val.makeFunc (xs:=[]) (ys:=[VP b395 0]) rfl rfl) ?_
     refine TV rfl rfl rfl (Val.assign rfl) ?_
     refine TL.nil ?_
     refine TQ.then_ ?_
     refine TC.ret ?_
     refine TQ.fin (v:=.func (.func 28) #[] #[VP b395 0]) (.inl rfl) rfl Try.results18 (.tmp rfl .nil) rfl (After.mk hf393 rfl ?_)
     refine TL.nil ?_
     refine TQ.then_ ?_
     refine TC.block ?_
     refine TC.rangeFunc (e1:=fun l_=>[(0,.func (.yield l_) #[] #[]),(1,VP b395 0)]) 27 rfl hbd28 Try.func28 rfl Try.ntmps28 rfl (fun _=>rfl) (Nat.le_of_ble_eq_true rfl) (fun a965 R962 o963 o964 hp966 ha967 hb968 hf969 hf970=>?_)
     refine TC.sel (Ls:=[Ob o964 (.deferred (some [])),Mk [],Ob o963 (LoopO R962 .ready none),Blk b395 [VI a0.f0,.slice A1 a0.f1.length c2] 24,Blk b391 [VI 0] 3,Blk b6 [VI a0.f0,.slice A1 a0.f1.length c2] 24,Blk b7 [VI a1] 3,Blk b8 [.bool false] 4]) [1,7,0,2,3,4,5,6] 8 rfl rfl rfl ?_
     refine TC.two (ch:=Mk (o964::[])) Mk.cons ?_
     refine TC.seq ?_
     refine TC.region ?_
     refine TV rfl rfl rfl (Val.fieldAddrB Try.underlying24 rfl fsz22 rfl rfl rfl) ?_
     refine TV rfl rfl rfl (Val.loadB 2 agg22 rfl rfl rfl) ?_
     refine TV rfl rfl rfl (Val.len Try.underlying22 rfl) ?_
     refine TV rfl rfl rfl (Val.move rfl) ?_
     refine TL.nil ?_
     refine TQ.then_ ?_
     obtain ⟨o1879,ho1879,ko1879⟩:=bind_no h
     clear h
     refine TC.tail (fun a W=>∃ (x1878:Int),(.inr x1878)=o1879∧Fr 27 a []∧Own G (Blk b391 [VI x1878] 3::Blk b395 [VI a0.f0,.slice A1 a0.f1.length c2] 24::Blk b6 [VI a0.f0,.slice A1 a0.f1.length c2] 24::Blk b7 [VI a1] 3::Blk b8 [.bool false] 4::Mk (o964::[])::Ob o963 (LoopO R962 .ready none)::L) W) ?_ ?_
     ·
      rintro a W ⟨x1878,rfl,hF,hO⟩
      have h:=ko1879
      clear ko1879 ho1879
      refine TQ.use ?_ hF hO
      clear hF hO
      refine TQ.fin (v:=.tuple #[]) (.inr rfl) rfl Try.results28 .nil rfl (RangeP.normal (L':=(Blk b391 [VI x1878] 3::Blk b395 [VI a0.f0,.slice A1 a0.f1.length c2] 24::Blk b6 [VI a0.f0,.slice A1 a0.f1.length c2] 24::Blk b7 [VI a1] 3::Blk b8 [.bool false] 4::Mk (o964::[])::Emp::L)) 6 hf970 rfl rfl rfl ?_)
      refine TQ.inB ?_
      refine TQ.then_ ?_
      refine TC.seq ?_
      refine TC.region ?_
      refine TL.cons (TL.store 4 (ds:=[.bool true]) (cs':=[.bool true]) (L':=(Blk b391 [VI x1878] 3::Blk b395 [VI a0.f0,.slice A1 a0.f1.length c2] 24::Blk b6 [VI a0.f0,.slice A1 a0.f1.length c2] 24::Blk b7 [VI a1] 3::Blk b8 [.bool true] 4::Mk (o964::[])::Emp::L)) rfl fsz4 rfl rfl rfl rfl rfl (Nat.le_of_ble_eq_true rfl) rfl rfl ?_)
      refine TL.nil ?_
      refine TQ.then_ ?_
      refine TC.ret ?_
      refine TQ.finL (ds:=List.map mark (o964::[])) (.inl rfl) rfl (fun a_ hx2179=>?_)
      refine Lv.marks (L':=(Blk b391 [VI x1878] 3::Blk b395 [VI a0.f0,.slice A1 a0.f1.length c2] 24::Blk b6 [VI a0.f0,.slice A1 a0.f1.length c2] 24::Blk b7 [VI a1] 3::Blk b8 [.bool true] 4::Emp::Emp::L)) 5 rfl rfl ?_
      obtain rfl:=Option.some.inj h
      exact Lv.nil hx2179 Try.results6 (.cell 4 rfl rfl agg4 rfl .nil) rfl (FRel.mk (Ls:=[]) [] 7 (Gd.le.refl _) rfl rfl rfl ⟨rfl,rfl,rfl⟩)
     ·
      refine TC.block ?_
      intro a W hF hO
      have hS:∃ (x1575:Int) (x1576:Int),code_Right.l0 a0 a1 (a0.f1.length + 1) x1575 x1576=some o1879∧Fr 27 a [(0,.func (.yield o963) #[] #[]),(8,.slice A1 a0.f1.length c2),(9,VI (a0.f1.length:Int)),(10,VI x1575)]∧Own G (Blk b391 [VI x1576] 3::Blk b395 [VI a0.f0,.slice A1 a0.f1.length c2] 24::Blk b6 [VI a0.f0,.slice A1 a0.f1.length c2] 24::Blk b7 [VI a1] 3::Blk b8 [.bool false] 4::Mk (o964::[])::Ob o963 (LoopO R962 .ready none)::L) W:=by
       exact ⟨0,0,ho1879,hF.sub ⟨rfl,rfl,rfl,rfl,trivial⟩,hO.selT (Ls:=[Blk b391 [VI 0] 3,Blk b395 [VI a0.f0,.slice A1 a0.f1.length c2] 24,Blk b6 [VI a0.f0,.slice A1 a0.f1.length c2] 24,Blk b7 [VI a1] 3,Blk b8 [.bool false] 4,Mk (o964::[]),Ob o963 (LoopO R962 .ready none)]) [3,2,4,5,6,0,1] 7 rfl rfl rfl⟩
      clear hF hO ho1879
      refine TC.loop (fun n1880 a W=>∃ (x1575:Int) (x1576:Int),code_Right.l0 a0 a1 n1880 x1575 x1576=some o1879∧Fr 27 a [(0,.func (.yield o963) #[] #[]),(8,.slice A1 a0.f1.length c2),(9,VI (a0.f1.length:Int)),(10,VI x1575)]∧Own G (Blk b391 [VI x1576] 3::Blk b395 [VI a0.f0,.slice A1 a0.f1.length c2] 24::Blk b6 [VI a0.f0,.slice A1 a0.f1.length c2] 24::Blk b7 [VI a1] 3::Blk b8 [.bool false] 4::Mk (o964::[])::Ob o963 (LoopO R962 .ready none)::L) W) ?_ ?_ hS
      ·
       rintro a W ⟨x1575,x1576,h,hF,hO⟩
       exact none_no h
      ·
       clear hS
       rintro n1880 a W ⟨x1575,x1576,h,hF,hO⟩
       rw [code_Right.l0] at h
       refine TC.use ?_ hF hO
       clear hF hO
       refine TC.seq ?_
       refine TC.region ?_
       refine TV rfl rfl rfl (Val.cmp rfl rfl run_lss) ?_
       refine TL.nil ?_
       refine TQ.then_ ?_
       refine TC.seq ?_
       refine TC.cond_p rfl h (fun hc2181 h=>?_) (fun hc2181 h=>?_)
       ·
        refine TC.skip ?_
        refine TQ.then_ ?_
        refine TC.seq ?_
        refine TC.block ?_
        refine TC.seq ?_
        refine TC.region ?_
        obtain ⟨y2387,hx2388,h⟩:=bind_no h
        obtain ⟨ad2389,cs2395,hA2390,hi2391,hj2392,hcl2393,hK2394⟩:=Rd.at hr3 hx2388
        obtain ⟨A2396,c2397,rfl,hr2398,hl2399⟩:=k35_openR hK2394
        refine TV rfl rfl rfl (Val.indexAddr Try.underlying22 fsz35 rfl hA2390 rfl hi2391 hj2392) ?_
        refine TV rfl rfl rfl (Val.loadsS (cs:=[.slice A2396 y2387.f0.length c2397,VI y2387.f1.f0,VI y2387.f1.f1,VI y2387.f1.f2,VI y2387.f1.f3]) agg35 fsz35 rfl rfl (Cl.sub (off:=0) (n:=5) hcl2393 rfl)) ?_
        refine TL.cons (TL.alloc (cs:=[.slice none 0 0,VI 0,VI 0,VI 0,VI 0]) rfl rfl zr35 rfl (fun b2400=>?_))
        refine TL.cons (TL.store 0 (ds:=[.slice A2396 y2387.f0.length c2397,VI y2387.f1.f0,VI y2387.f1.f1,VI y2387.f1.f2,VI y2387.f1.f3]) (cs':=[.slice A2396 y2387.f0.length c2397,VI y2387.f1.f0,VI y2387.f1.f1,VI y2387.f1.f2,VI y2387.f1.f3]) (L':=(Blk b2400 [.slice A2396 y2387.f0.length c2397,VI y2387.f1.f0,VI y2387.f1.f1,VI y2387.f1.f2,VI y2387.f1.f3] 35::Blk b391 [VI x1576] 3::Blk b395 [VI a0.f0,.slice A1 a0.f1.length c2] 24::Blk b6 [VI a0.f0,.slice A1 a0.f1.length c2] 24::Blk b7 [VI a1] 3::Blk b8 [.bool false] 4::Mk (o964::[])::Ob o963 (LoopO R962 .ready none)::L)) rfl fsz35 rfl rfl rfl rfl rfl (Nat.le_of_ble_eq_true rfl) rfl rfl ?_)
        refine TL.nil ?_
        refine TQ.then_ ?_
        refine TC.seq ?_
        refine TC.region ?_
        refine TV rfl rfl rfl (Val.fieldAddrB Try.underlying35 rfl fsz31 rfl rfl rfl) ?_
        refine TV rfl rfl rfl (Val.loadB 0 agg31 rfl rfl rfl) ?_
        refine TV rfl rfl rfl (Val.len Try.underlying31 rfl) ?_
        refine TV rfl rfl rfl (Val.move rfl) ?_
        refine TL.nil ?_
        refine TQ.then_ ?_
        obtain ⟨o2661,ho2661,ko2661⟩:=bind_no h
        clear h
        refine TC.tail (fun a W=>∃ (x2660:Int),(.inr x2660)=o2661∧Fr 27 a [(0,.func (.yield o963) #[] #[]),(8,.slice A1 a0.f1.length c2),(9,VI (a0.f1.length:Int)),(10,VI x1575)]∧Own G (Blk b391 [VI x2660] 3::Blk b395 [VI a0.f0,.slice A1 a0.f1.length c2] 24::Blk b6 [VI a0.f0,.slice A1 a0.f1.length c2] 24::Blk b7 [VI a1] 3::Blk b8 [.bool false] 4::Mk (o964::[])::Ob o963 (LoopO R962 .ready none)::L) W) ?_ ?_
        ·
         rintro a W ⟨x2660,rfl,hF,hO⟩
         have h:=ko2661
         clear ko2661 ho2661
         refine TQ.use ?_ hF hO
         clear hF hO
         refine TQ.inB ?_
         refine TQ.then_ ?_
         refine TC.region ?_
         refine TV rfl rfl rfl (Val.cmp rfl rfl run_add) ?_
         refine TV rfl rfl rfl (Val.move rfl) ?_
         refine TL.nil ?_
         exact fun a W hF hO=>⟨IntKind.i64.wrap (x1575 + 1),x2660,h,hF.sub ⟨rfl,rfl,rfl,rfl,trivial⟩,hO.selT (Ls:=[Blk b391 [VI x2660] 3,Blk b395 [VI a0.f0,.slice A1 a0.f1.length c2] 24,Blk b6 [VI a0.f0,.slice A1 a0.f1.length c2] 24,Blk b7 [VI a1] 3,Blk b8 [.bool false] 4,Mk (o964::[]),Ob o963 (LoopO R962 .ready none)]) [0,1,2,3,4,5,6] 7 rfl rfl rfl⟩
        ·
         refine TC.block ?_
         intro a W hF hO
         have hS:∃ (x2573:Int) (x2574:Int),code_Right.l1 a1 y2387 (y2387.f0.length + 1) x2573 x2574=some o2661∧Fr 27 a [(0,.func (.yield o963) #[] #[]),(8,.slice A1 a0.f1.length c2),(9,VI (a0.f1.length:Int)),(10,VI x1575),(15,.slice A2396 y2387.f0.length c2397),(16,VI (y2387.f0.length:Int)),(17,VI x2573)]∧Own G (Blk b391 [VI x2574] 3::Blk b395 [VI a0.f0,.slice A1 a0.f1.length c2] 24::Blk b6 [VI a0.f0,.slice A1 a0.f1.length c2] 24::Blk b7 [VI a1] 3::Blk b8 [.bool false] 4::Mk (o964::[])::Ob o963 (LoopO R962 .ready none)::L) W:=by
          exact ⟨0,x1576,ho2661,hF.sub ⟨rfl,rfl,rfl,rfl,rfl,rfl,rfl,trivial⟩,hO.selT (Ls:=[Blk b391 [VI x1576] 3,Blk b395 [VI a0.f0,.slice A1 a0.f1.length c2] 24,Blk b6 [VI a0.f0,.slice A1 a0.f1.length c2] 24,Blk b7 [VI a1] 3,Blk b8 [.bool false] 4,Mk (o964::[]),Ob o963 (LoopO R962 .ready none)]) [1,2,3,4,5,6,7] 8 rfl rfl rfl⟩
         clear hF hO ho2661
         refine TC.loop (fun n2662 a W=>∃ (x2573:Int) (x2574:Int),code_Right.l1 a1 y2387 n2662 x2573 x2574=some o2661∧Fr 27 a [(0,.func (.yield o963) #[] #[]),(8,.slice A1 a0.f1.length c2),(9,VI (a0.f1.length:Int)),(10,VI x1575),(15,.slice A2396 y2387.f0.length c2397),(16,VI (y2387.f0.length:Int)),(17,VI x2573)]∧Own G (Blk b391 [VI x2574] 3::Blk b395 [VI a0.f0,.slice A1 a0.f1.length c2] 24::Blk b6 [VI a0.f0,.slice A1 a0.f1.length c2] 24::Blk b7 [VI a1] 3::Blk b8 [.bool false] 4::Mk (o964::[])::Ob o963 (LoopO R962 .ready none)::L) W) ?_ ?_ hS
         ·
          rintro a W ⟨x2573,x2574,h,hF,hO⟩
          exact none_no h
         ·
          clear hS
          rintro n2662 a W ⟨x2573,x2574,h,hF,hO⟩
          rw [code_Right.l1] at h
          refine TC.use ?_ hF hO
          clear hF hO
          refine TC.seq ?_
          refine TC.region ?_
          refine TV rfl rfl rfl (Val.cmp rfl rfl run_lss) ?_
          refine TL.nil ?_
          refine TQ.then_ ?_
          refine TC.seq ?_
          refine TC.cond_p rfl h (fun hc2748 h=>?_) (fun hc2748 h=>?_)
          ·
           refine TC.skip ?_
           refine TQ.then_ ?_
           refine TC.seq ?_
           refine TC.block ?_
           refine TC.seq ?_
           refine TC.region ?_
           obtain ⟨y2794,hx2795,h⟩:=bind_no h
           obtain ⟨ad2796,cs2802,hA2797,hi2798,hj2799,hcl2800,hK2801⟩:=Rd.at hr2398 hx2795
           obtain ⟨A2803,c2804,rfl,hr2805,hl2806⟩:=k37_openR hK2801
           refine TV rfl rfl rfl (Val.indexAddr Try.underlying31 fsz37 rfl hA2797 rfl hi2798 hj2799) ?_
           refine TV rfl rfl rfl (Val.loadsS (cs:=[VI y2794.f0,VI y2794.f1,VI y2794.f2,VI y2794.f3,VI y2794.f4,.slice A2803 y2794.f5.length c2804]) agg37 fsz37 rfl rfl (Cl.sub (off:=0) (n:=6) hcl2800 rfl)) ?_
           refine TL.cons (TL.alloc (cs:=[VI 0,VI 0,VI 0,VI 0,VI 0,.slice none 0 0]) rfl rfl zr37 rfl (fun b2807=>?_))
           refine TL.cons (TL.store 0 (ds:=[VI y2794.f0,VI y2794.f1,VI y2794.f2,VI y2794.f3,VI y2794.f4,.slice A2803 y2794.f5.length c2804]) (cs':=[VI y2794.f0,VI y2794.f1,VI y2794.f2,VI y2794.f3,VI y2794.f4,.slice A2803 y2794.f5.length c2804]) (L':=(Blk b2807 [VI y2794.f0,VI y2794.f1,VI y2794.f2,VI y2794.f3,VI y2794.f4,.slice A2803 y2794.f5.length c2804] 37::Blk b391 [VI x2574] 3::Blk b395 [VI a0.f0,.slice A1 a0.f1.length c2] 24::Blk b6 [VI a0.f0,.slice A1 a0.f1.length c2] 24::Blk b7 [VI a1] 3::Blk b8 [.bool false] 4::Mk (o964::[])::Ob o963 (LoopO R962 .ready none)::L)) rfl fsz37 rfl rfl rfl rfl rfl (Nat.le_of_ble_eq_true rfl) rfl rfl ?_)
           refine TL.nil ?_
           refine TQ.then_ ?_
           refine TC.seq ?_
           refine TC.region ?_
           refine TV rfl rfl rfl (Val.move rfl) ?_
           refine TV rfl rfl rfl (Val.loadsB 0 (cs:=[VI y2794.f0,VI y2794.f1,VI y2794.f2,VI y2794.f3,VI y2794.f4,.slice A2803 y2794.f5.length c2804]) agg37 fsz37 rfl rfl rfl rfl) ?_
           refine TL.cons (TO.yield 7 rfl rfl rfl rfl hp966 ha967 hb968 rfl hf969 rfl rfl (fun a2808 hf2809=>?_))
           refine TC.region ?_
           refine TL.cons (TL.alloc (cs:=[VI 0,VI 0,VI 0,VI 0,VI 0,.slice none 0 0]) rfl rfl zr37 rfl (fun b2810=>?_))
           refine TL.cons (TL.store 0 (ds:=[VI y2794.f0,VI y2794.f1,VI y2794.f2,VI y2794.f3,VI y2794.f4,.slice A2803 y2794.f5.length c2804]) (cs':=[VI y2794.f0,VI y2794.f1,VI y2794.f2,VI y2794.f3,VI y2794.f4,.slice A2803 y2794.f5.length c2804]) (L':=(Blk b2810 [VI y2794.f0,VI y2794.f1,VI y2794.f2,VI y2794.f3,VI y2794.f4,.slice A2803 y2794.f5.length c2804] 37::Blk b2807 [VI y2794.f0,VI y2794.f1,VI y2794.f2,VI y2794.f3,VI y2794.f4,.slice A2803 y2794.f5.length c2804] 37::Blk b391 [VI x2574] 3::Blk b395 [VI a0.f0,.slice A1 a0.f1.length c2] 24::Blk b6 [VI a0.f0,.slice A1 a0.f1.length c2] 24::Blk b7 [VI a1] 3::Blk b8 [.bool false] 4::Mk (o964::[])::Ob o963 (LoopO R962 .ready none)::L)) rfl fsz37 rfl rfl rfl rfl rfl (Nat.le_of_ble_eq_true rfl) rfl rfl ?_)
           refine TL.nil ?_
           refine TQ.begin (L':=(Blk b2810 [VI y2794.f0,VI y2794.f1,VI y2794.f2,VI y2794.f3,VI y2794.f4,.slice A2803 y2794.f5.length c2804] 37::Blk b2807 [VI y2794.f0,VI y2794.f1,VI y2794.f2,VI y2794.f3,VI y2794.f4,.slice A2803 y2794.f5.length c2804] 37::Blk b391 [VI x2574] 3::Blk b395 [VI a0.f0,.slice A1 a0.f1.length c2] 24::Blk b6 [VI a0.f0,.slice A1 a0.f1.length c2] 24::Blk b7 [VI a1] 3::Blk b8 [.bool false] 4::Mk (o964::[])::Ob o963 (LoopO R962 .busy none)::L)) 8 rfl rfl ?_
           refine TC.block ?_
           refine TC.seq ?_
           refine TC.region ?_
           refine TV rfl rfl rfl (Val.loadB 2 agg3 rfl rfl rfl) ?_
           refine TV rfl rfl rfl (Val.cmp rfl rfl run_add) ?_
           refine TL.cons (TL.store 2 (ds:=[VI (IntKind.i64.wrap (x2574 + 1))]) (cs':=[VI (IntKind.i64.wrap (x2574 + 1))]) (L':=(Blk b2810 [VI y2794.f0,VI y2794.f1,VI y2794.f2,VI y2794.f3,VI y2794.f4,.slice A2803 y2794.f5.length c2804] 37::Blk b2807 [VI y2794.f0,VI y2794.f1,VI y2794.f2,VI y2794.f3,VI y2794.f4,.slice A2803 y2794.f5.length c2804] 37::Blk b391 [VI (IntKind.i64.wrap (x2574 + 1))] 3::Blk b395 [VI a0.f0,.slice A1 a0.f1.length c2] 24::Blk b6 [VI a0.f0,.slice A1 a0.f1.length c2] 24::Blk b7 [VI a1] 3::Blk b8 [.bool false] 4::Mk (o964::[])::Ob o963 (LoopO R962 .busy none)::L)) rfl fsz3 rfl rfl rfl rfl rfl (Nat.le_of_ble_eq_true rfl) rfl rfl ?_)
           refine TL.nil ?_
           refine TQ.then_ ?_
           refine TC.seq ?_
           obtain ⟨j2831,hj2831,h⟩:=jn_no h
           refine TC.tail (fun a W=>∃ (x2830:Bool),j2831 x2830=some o2661∧Fr 35 a [(4,VP b8 0),(34,.bool x2830)]∧Own G (Blk b2807 [VI y2794.f0,VI y2794.f1,VI y2794.f2,VI y2794.f3,VI y2794.f4,.slice A2803 y2794.f5.length c2804] 37::Blk b391 [VI (IntKind.i64.wrap (x2574 + 1))] 3::Blk b395 [VI a0.f0,.slice A1 a0.f1.length c2] 24::Blk b6 [VI a0.f0,.slice A1 a0.f1.length c2] 24::Blk b7 [VI a1] 3::Blk b8 [.bool false] 4::Mk (o964::[])::Ob o963 (LoopO R962 .busy none)::L) W) ?_ ?_
           ·
            rintro a W ⟨x2830,h,hF,hO⟩
            rw [hj2831] at h
            refine TQ.use ?_ hF hO
            clear hF hO
            refine TQ.then_ ?_
            refine TC.cond_b rfl h (fun hc2833 h=>?_) (fun hc2833 h=>?_)
            ·
             refine TC.seq ?_
             refine TC.region ?_
             refine TL.cons (TL.store 5 (ds:=[.bool false]) (cs':=[.bool false]) (L':=(Blk b2807 [VI y2794.f0,VI y2794.f1,VI y2794.f2,VI y2794.f3,VI y2794.f4,.slice A2803 y2794.f5.length c2804] 37::Blk b391 [VI (IntKind.i64.wrap (x2574 + 1))] 3::Blk b395 [VI a0.f0,.slice A1 a0.f1.length c2] 24::Blk b6 [VI a0.f0,.slice A1 a0.f1.length c2] 24::Blk b7 [VI a1] 3::Blk b8 [.bool false] 4::Mk (o964::[])::Ob o963 (LoopO R962 .busy none)::L)) rfl fsz4 rfl rfl rfl rfl rfl (Nat.le_of_ble_eq_true rfl) rfl rfl ?_)
             refine TL.nil ?_
             refine TQ.then_ ?_
             refine TC.ret ?_
             refine TQ.inBR ?_
             refine TQ.roundR (L':=(Blk b2807 [VI y2794.f0,VI y2794.f1,VI y2794.f2,VI y2794.f3,VI y2794.f4,.slice A2803 y2794.f5.length c2804] 37::Blk b391 [VI (IntKind.i64.wrap (x2574 + 1))] 3::Blk b395 [VI a0.f0,.slice A1 a0.f1.length c2] 24::Blk b6 [VI a0.f0,.slice A1 a0.f1.length c2] 24::Blk b7 [VI a1] 3::Blk b8 [.bool false] 4::Mk (o964::[])::Ob o963 (LoopO R962 .done (some .ret))::L)) 7 rfl rfl (After.mk hf2809 rfl ?_)
             refine TV rfl rfl rfl (Val.not_ rfl) ?_
             refine TL.nil ?_
             refine TQ.then_ ?_
             refine TC.condT rfl ?_
             refine TC.ret ?_
             refine TQ.inBR ?_
             refine TQ.thenR ?_
             refine TQ.thenR ?_
             refine TQ.inBR ?_
             refine TQ.thenR ?_
             refine TQ.inBR ?_
             refine TQ.thenR ?_
             refine TQ.thenR ?_
             refine TQ.inBR ?_
             refine TQ.thenR ?_
             refine TQ.fin (v:=.tuple #[]) (.inl rfl) rfl Try.results28 .nil rfl (RangeP.ret (L':=(Blk b2807 [VI y2794.f0,VI y2794.f1,VI y2794.f2,VI y2794.f3,VI y2794.f4,.slice A2803 y2794.f5.length c2804] 37::Blk b391 [VI (IntKind.i64.wrap (x2574 + 1))] 3::Blk b395 [VI a0.f0,.slice A1 a0.f1.length c2] 24::Blk b6 [VI a0.f0,.slice A1 a0.f1.length c2] 24::Blk b7 [VI a1] 3::Blk b8 [.bool false] 4::Mk (o964::[])::Emp::L)) 7 hf970 rfl rfl rfl ?_)
             refine TQ.inBR ?_
             refine TQ.thenR ?_
             refine TQ.finL (ds:=List.map mark (o964::[])) (.inl rfl) rfl (fun a_ hx2834=>?_)
             refine Lv.marks (L':=(Blk b2807 [VI y2794.f0,VI y2794.f1,VI y2794.f2,VI y2794.f3,VI y2794.f4,.slice A2803 y2794.f5.length c2804] 37::Blk b391 [VI (IntKind.i64.wrap (x2574 + 1))] 3::Blk b395 [VI a0.f0,.slice A1 a0.f1.length c2] 24::Blk b6 [VI a0.f0,.slice A1 a0.f1.length c2] 24::Blk b7 [VI a1] 3::Blk b8 [.bool false] 4::Emp::Emp::L)) 6 rfl rfl ?_
             obtain rfl:=Option.some.inj h
             have h:=ko2661
             obtain rfl:=Option.some.inj h
             have h:=ko1879
             obtain rfl:=Option.some.inj h
             exact Lv.nil hx2834 Try.results6 (.cell 5 rfl rfl agg4 rfl .nil) rfl (FRel.mk (Ls:=[]) [] 8 (Gd.le.refl _) rfl rfl rfl ⟨rfl,rfl,rfl⟩)
            ·
             refine TC.skip ?_
             refine TQ.inB ?_
             refine TQ.roundN (L':=(Blk b2807 [VI y2794.f0,VI y2794.f1,VI y2794.f2,VI y2794.f3,VI y2794.f4,.slice A2803 y2794.f5.length c2804] 37::Blk b391 [VI (IntKind.i64.wrap (x2574 + 1))] 3::Blk b395 [VI a0.f0,.slice A1 a0.f1.length c2] 24::Blk b6 [VI a0.f0,.slice A1 a0.f1.length c2] 24::Blk b7 [VI a1] 3::Blk b8 [.bool false] 4::Mk (o964::[])::Ob o963 (LoopO R962 .ready none)::L)) 7 rfl rfl (After.mk hf2809 rfl ?_)
             refine TV rfl rfl rfl (Val.not_ rfl) ?_
             refine TL.nil ?_
             refine TQ.then_ ?_
             refine TC.condF rfl ?_
             refine TC.skip ?_
             refine TQ.inB ?_
             refine TQ.then_ ?_
             refine TC.region ?_
             refine TV rfl rfl rfl (Val.cmp rfl rfl run_add) ?_
             refine TV rfl rfl rfl (Val.move rfl) ?_
             refine TL.nil ?_
             exact fun a W hF hO=>⟨IntKind.i64.wrap (x2573 + 1),IntKind.i64.wrap (x2574 + 1),h,hF.sub ⟨rfl,rfl,rfl,rfl,rfl,rfl,rfl,trivial⟩,hO.selT (Ls:=[Blk b391 [VI (IntKind.i64.wrap (x2574 + 1))] 3,Blk b395 [VI a0.f0,.slice A1 a0.f1.length c2] 24,Blk b6 [VI a0.f0,.slice A1 a0.f1.length c2] 24,Blk b7 [VI a1] 3,Blk b8 [.bool false] 4,Mk (o964::[]),Ob o963 (LoopO R962 .ready none)]) [1,2,3,4,5,6,7] 8 rfl rfl rfl⟩
           ·
            refine TC.region ?_
            refine TV rfl rfl rfl (Val.loadB 2 agg3 rfl rfl rfl) ?_
            refine TV rfl rfl rfl (Val.cmp rfl rfl run_gtr) ?_
            refine TV rfl rfl rfl (Val.move rfl) ?_
            refine TK.split (p:=16384 < (IntKind.i64.wrap (x2574 + 1))) h (fun hg2835 h=>?_) (fun hg2835 h=>?_)
            ·
             have hk2836:decide (16384 < (IntKind.i64.wrap (x2574 + 1)))=true:=decide_eq_true hg2835
             refine TL.cons (TL.not (Wt.no rfl rfl rfl hk2836) rfl ?_)
             refine TL.cons (TL.not (Wt.no rfl rfl rfl hk2836) rfl ?_)
             refine TL.cons (TL.not (Wt.no rfl rfl rfl hk2836) rfl ?_)
             refine TL.cons (TL.not (Wt.no rfl rfl rfl hk2836) rfl ?_)
             refine TV rfl rfl rfl (Val.pickY rfl hk2836 rfl) ?_
             refine TL.nil ?_
             exact fun a W hF hO=>⟨true,h,hF.sub ⟨rfl,rfl,trivial⟩,hO.selT (Ls:=[Blk b2807 [VI y2794.f0,VI y2794.f1,VI y2794.f2,VI y2794.f3,VI y2794.f4,.slice A2803 y2794.f5.length c2804] 37,Blk b391 [VI (IntKind.i64.wrap (x2574 + 1))] 3,Blk b395 [VI a0.f0,.slice A1 a0.f1.length c2] 24,Blk b6 [VI a0.f0,.slice A1 a0.f1.length c2] 24,Blk b7 [VI a1] 3,Blk b8 [.bool false] 4,Mk (o964::[]),Ob o963 (LoopO R962 .busy none)]) [1,2,3,4,5,6,7,8] 9 rfl rfl rfl⟩
            ·
             have hk2837:decide (16384 < (IntKind.i64.wrap (x2574 + 1)))=false:=decide_eq_false hg2835
             refine TV (Wt.yes rfl rfl rfl hk2837) rfl rfl (Val.loadsB 0 (cs:=[VI y2794.f0,VI y2794.f1,VI y2794.f2,VI y2794.f3,VI y2794.f4,.slice A2803 y2794.f5.length c2804]) agg37 fsz37 rfl rfl rfl rfl) ?_
             refine TV (Wt.yes rfl rfl rfl hk2837) rfl rfl (Val.loadB 5 agg3 rfl rfl rfl) ?_
             obtain ⟨y2838,hy2839,h⟩:=bind_no h
             refine TL.cons (TL.callV (Lin:=[]) (args:=[.agg #[VI y2794.f0,VI y2794.f1,VI y2794.f2,VI y2794.f3,VI y2794.f4,.slice A2803 y2794.f5.length c2804],VI a1]) (Wt.yes rfl rfl rfl hk2837) rfl rfl hbd19 rfl rfl (code_RightOp.calls (a0:=y2794) (a1:=a1) hr2805 hl2806 hy2839) rfl ?_)
             rintro _ _ _ _ ⟨rfl,rfl,rfl⟩
             refine TV (Wt.yes rfl rfl rfl hk2837) rfl rfl (Val.not_ rfl) ?_
             refine TV rfl rfl rfl (Val.pickN rfl hk2837 rfl) ?_
             refine TL.nil ?_
             exact fun a W hF hO=>⟨(!y2838),h,hF.sub ⟨rfl,rfl,trivial⟩,hO.selT (Ls:=[Blk b2807 [VI y2794.f0,VI y2794.f1,VI y2794.f2,VI y2794.f3,VI y2794.f4,.slice A2803 y2794.f5.length c2804] 37,Blk b391 [VI (IntKind.i64.wrap (x2574 + 1))] 3,Blk b395 [VI a0.f0,.slice A1 a0.f1.length c2] 24,Blk b6 [VI a0.f0,.slice A1 a0.f1.length c2] 24,Blk b7 [VI a1] 3,Blk b8 [.bool false] 4,Mk (o964::[]),Ob o963 (LoopO R962 .busy none)]) [1,2,3,4,5,6,7,8] 9 rfl rfl rfl⟩
          ·
           refine TC.exit ?_
           refine TQ.thenX ?_
           refine TQ.thenX ?_
           refine TQ.inBX ?_
           exact fun a W hF hO=>⟨x2574,Option.some.inj h,hF.sub ⟨rfl,rfl,rfl,rfl,trivial⟩,hO.selT (Ls:=[Blk b391 [VI x2574] 3,Blk b395 [VI a0.f0,.slice A1 a0.f1.length c2] 24,Blk b6 [VI a0.f0,.slice A1 a0.f1.length c2] 24,Blk b7 [VI a1] 3,Blk b8 [.bool false] 4,Mk (o964::[]),Ob o963 (LoopO R962 .ready none)]) [0,1,2,3,4,5,6] 7 rfl rfl rfl⟩
       ·
        refine TC.exit ?_
        refine TQ.thenX ?_
        refine TQ.thenX ?_
        refine TQ.inBX ?_
        exact fun a W hF hO=>⟨x1576,Option.some.inj h,hF.sub trivial,hO.selT (Ls:=[Blk b391 [VI x1576] 3,Blk b395 [VI a0.f0,.slice A1 a0.f1.length c2] 24,Blk b6 [VI a0.f0,.slice A1 a0.f1.length c2] 24,Blk b7 [VI a1] 3,Blk b8 [.bool false] 4,Mk (o964::[]),Ob o963 (LoopO R962 .ready none)]) [0,1,2,3,4,5,6] 7 rfl rfl rfl⟩
   ·
    refine TC.seq ?_
    refine TC.region ?_
    refine TV rfl rfl rfl (Val.assign rfl) ?_
    refine TL.nil ?_
    refine TQ.then_ ?_
    refine TC.seq ?_
    refine TC.seq ?_
    refine TC.region ?_
    refine TV rfl rfl rfl (Val.move rfl) ?_
    refine TV rfl rfl rfl (Val.len Try.underlying22 rfl) ?_
    refine TV rfl rfl rfl (Val.move rfl) ?_
    refine TL.nil ?_
    refine TQ.then_ ?_
    obtain ⟨o2986,ho2986,ko2986⟩:=bind_no h
    clear h
    refine TC.tail (fun a W=>(.inr ())=o2986∧Fr 19 a []∧Own G (Blk b6 [VI a0.f0,.slice A1 a0.f1.length c2] 24::Blk b7 [VI a1] 3::Blk b8 [.bool false] 4::Mk []::L) W) ?_ ?_
    ·
     rintro a W ⟨rfl,hF,hO⟩
     have h:=ko2986
     clear ko2986 ho2986
     refine TQ.use ?_ hF hO
     clear hF hO
     refine TQ.then_ ?_
     refine TC.seq ?_
     refine TC.region ?_
     refine TV rfl rfl rfl (Val.assign rfl) ?_
     refine TL.nil ?_
     refine TQ.then_ ?_
     refine TC.ret ?_
     exact TQ.fin (v:=VI (-1)) (.inl rfl) rfl Try.results25 (.tmp rfl .nil) rfl (fun W hO=>⟨(-1),h,rfl,hO.selT (Ls:=[Blk b6 [VI a0.f0,.slice A1 a0.f1.length c2] 24,Blk b7 [VI a1] 3,Blk b8 [.bool false] 4,Mk []]) [0,1,2,3] 4 rfl rfl rfl⟩)
    ·
     refine TC.block ?_
     intro a W hF hO
     have hS:∃ (x2937:Int),code_Right.l2 a0 j387 (a0.f1.length + 1) x2937=some o2986∧Fr 19 a [(0,.slice A1 a0.f1.length c2),(1,.func (.func 16) #[] #[VP b6 0]),(7,VI (a0.f1.length:Int)),(8,VI x2937)]∧Own G (Blk b6 [VI a0.f0,.slice A1 a0.f1.length c2] 24::Blk b7 [VI a1] 3::Blk b8 [.bool false] 4::Mk []::L) W:=by
      exact ⟨0,ho2986,hF.sub ⟨rfl,rfl,rfl,rfl,trivial⟩,hO.selT (Ls:=[Blk b6 [VI a0.f0,.slice A1 a0.f1.length c2] 24,Blk b7 [VI a1] 3,Blk b8 [.bool false] 4,Mk []]) [0,1,2,3] 4 rfl rfl rfl⟩
     clear hF hO ho2986
     refine TC.loop (fun n2987 a W=>∃ (x2937:Int),code_Right.l2 a0 j387 n2987 x2937=some o2986∧Fr 19 a [(0,.slice A1 a0.f1.length c2),(1,.func (.func 16) #[] #[VP b6 0]),(7,VI (a0.f1.length:Int)),(8,VI x2937)]∧Own G (Blk b6 [VI a0.f0,.slice A1 a0.f1.length c2] 24::Blk b7 [VI a1] 3::Blk b8 [.bool false] 4::Mk []::L) W) ?_ ?_ hS
     ·
      rintro a W ⟨x2937,h,hF,hO⟩
      exact none_no h
     ·
      clear hS
      rintro n2987 a W ⟨x2937,h,hF,hO⟩
      rw [code_Right.l2] at h
      refine TC.use ?_ hF hO
      clear hF hO
      refine TC.seq ?_
      refine TC.region ?_
      refine TV rfl rfl rfl (Val.cmp rfl rfl run_lss) ?_
      refine TL.nil ?_
      refine TQ.then_ ?_
      refine TC.seq ?_
      refine TC.cond_p rfl h (fun hc3037 h=>?_) (fun hc3037 h=>?_)
      ·
       refine TC.skip ?_
       refine TQ.then_ ?_
       refine TC.seq ?_
       refine TC.block ?_
       refine TC.seq ?_
       refine TC.region ?_
       refine TV rfl rfl rfl (Val.move rfl) ?_
       refine TV rfl rfl rfl (Val.assign rfl) ?_
       refine TL.nil ?_
       refine TQ.then_ ?_
       refine TC.seq ?_
       refine TC.region ?_
       refine TV rfl rfl rfl (Val.move rfl) ?_
       refine TV rfl rfl rfl (Val.move rfl) ?_
       refine TV rfl rfl rfl (Val.move rfl) ?_
       obtain ⟨y3061,hx3062,h⟩:=bind_no h
       obtain ⟨ad3063,cs3069,hA3064,hi3065,hj3066,hcl3067,hK3068⟩:=Rd.at hr3 hx3062
       obtain ⟨A3070,c3071,rfl,hr3072,hl3073⟩:=k35_openR hK3068
       refine TV rfl rfl rfl (Val.indexAddr Try.underlying22 fsz35 rfl hA3064 rfl hi3065 hj3066) ?_
       refine TV rfl rfl rfl (Val.loadsS (cs:=[.slice A3070 y3061.f0.length c3071,VI y3061.f1.f0,VI y3061.f1.f1,VI y3061.f1.f2,VI y3061.f1.f3]) agg35 fsz35 rfl rfl (Cl.sub (off:=0) (n:=5) hcl3067 rfl)) ?_
       refine TL.cons (TO.inl (args:=[.agg #[.slice A3070 y3061.f0.length c3071,VI y3061.f1.f0,VI y3061.f1.f1,VI y3061.f1.f2,VI y3061.f1.f3],VP b6 0]) (e':=[(0,.agg #[.slice A3070 y3061.f0.length c3071,VI y3061.f1.f0,VI y3061.f1.f1,VI y3061.f1.f2,VI y3061.f1.f3]),(1,VP b6 0)]) 11 rfl rfl hbd16 rfl rfl Try.func16 rfl Try.ntmps16 rfl rfl (Nat.le_of_ble_eq_true rfl) (fun a3074 hf3075=>?_))
       refine TC.seq ?_
       refine TC.region ?_
       refine TL.cons (TL.box (cs:=[.slice A3070 y3061.f0.length c3071,VI y3061.f1.f0,VI y3061.f1.f1,VI y3061.f1.f2,VI y3061.f1.f3]) rfl rfl rfl rfl (fun b3079=>?_))
       refine TV rfl rfl rfl (Val.assign rfl) ?_
       refine TL.nil ?_
       refine TQ.then_ ?_
       refine TC.seq ?_
       refine TC.region ?_
       refine TV rfl rfl rfl (Val.fieldAddrB Try.underlying35 rfl fsz33 rfl rfl rfl) ?_
       refine TV rfl rfl rfl (Val.loadsB 0 (cs:=[VI y3061.f1.f0,VI y3061.f1.f1,VI y3061.f1.f2,VI y3061.f1.f3]) agg33 fsz33 rfl rfl rfl rfl) ?_
       refine TV rfl rfl rfl (Val.fieldAddrB Try.underlying24 rfl fsz22 rfl rfl rfl) ?_
       refine TV rfl rfl rfl (Val.loadB 1 agg22 rfl rfl rfl) ?_
       refine TV rfl rfl rfl (Val.len Try.underlying22 rfl) ?_
       obtain ⟨y3080,hy3081,h⟩:=bind_no h
       refine TL.cons (TL.callV (Lin:=[]) (args:=[.agg #[VI y3061.f1.f0,VI y3061.f1.f1,VI y3061.f1.f2,VI y3061.f1.f3],VI (a0.f1.length:Int)]) rfl rfl rfl hbd17 rfl rfl (code_rightTerm.calls (a0:=y3061.f1) (a1:=(a0.f1.length:Int)) hy3081) rfl ?_)
       rintro _ _ _ _ ⟨rfl,rfl,rfl⟩
       refine TV rfl rfl rfl (Val.not_ rfl) ?_
       refine TV rfl rfl rfl (Val.assign rfl) ?_
       refine TL.nil ?_
       refine TQ.then_ ?_
       refine TC.ret ?_
       refine TQ.fin (v:=.bool (!y3080)) (.inl rfl) rfl Try.results16 (.tmp rfl .nil) rfl (After.mk hf3075 rfl ?_)
       refine TL.nil ?_
       refine TQ.then_ ?_
       refine TC.cond_b rfl h (fun hc3083 h=>?_) (fun hc3083 h=>?_)
       ·
        refine TC.seq ?_
        refine TC.region ?_
        refine TV rfl rfl rfl (Val.move rfl) ?_
        refine TV rfl rfl rfl (Val.assign rfl) ?_
        refine TL.nil ?_
        refine TQ.then_ ?_
        refine TC.ret ?_
        refine TQ.inBR ?_
        refine TQ.thenR ?_
        refine TQ.thenR ?_
        refine TQ.inBR ?_
        refine TQ.thenR ?_
        refine TQ.thenR ?_
        obtain ⟨q_,hq_,h⟩:=bind_no h
        obtain rfl:=Option.some.inj h
        have h:=ko2986
        obtain rfl:=Option.some.inj h
        have h:=hq_
        clear hq_
        exact TQ.fin (v:=VI x2937) (.inl rfl) rfl Try.results25 (.tmp rfl .nil) rfl (fun W hO=>⟨x2937,h,rfl,hO.selT (Ls:=[Blk b6 [VI a0.f0,.slice A1 a0.f1.length c2] 24,Blk b7 [VI a1] 3,Blk b8 [.bool false] 4,Mk []]) [1,2,3,4] 5 rfl rfl rfl⟩)
       ·
        refine TC.skip ?_
        refine TQ.inB ?_
        refine TQ.then_ ?_
        refine TC.region ?_
        refine TV rfl rfl rfl (Val.cmp rfl rfl run_add) ?_
        refine TV rfl rfl rfl (Val.move rfl) ?_
        refine TL.nil ?_
        exact fun a W hF hO=>⟨IntKind.i64.wrap (x2937 + 1),h,hF.sub ⟨rfl,rfl,rfl,rfl,trivial⟩,hO.selT (Ls:=[Blk b6 [VI a0.f0,.slice A1 a0.f1.length c2] 24,Blk b7 [VI a1] 3,Blk b8 [.bool false] 4,Mk []]) [1,2,3,4] 5 rfl rfl rfl⟩
      ·
       refine TC.exit ?_
       refine TQ.thenX ?_
       refine TQ.thenX ?_
       refine TQ.inBX ?_
       exact fun a W hF hO=>⟨Option.some.inj h,hF.sub trivial,hO.selT (Ls:=[Blk b6 [VI a0.f0,.slice A1 a0.f1.length c2] 24,Blk b7 [VI a1] 3,Blk b8 [.bool false] 4,Mk []]) [0,1,2,3] 4 rfl rfl rfl⟩
 ·
  refine TC.region ?_
  refine TV rfl rfl rfl (Val.fieldAddrB Try.underlying24 rfl fsz22 rfl rfl rfl) ?_
  refine TV rfl rfl rfl (Val.loadB 2 agg22 rfl rfl rfl) ?_
  refine TV rfl rfl rfl (Val.len Try.underlying22 rfl) ?_
  obtain ⟨y3084,hy3085,h⟩:=bind_no h
  refine TL.cons (TL.callV (Lin:=[]) (args:=[VI (a0.f1.length:Int),VI 1,VI 4096]) rfl rfl rfl hbd14 rfl rfl (code_within.calls (a0:=(a0.f1.length:Int)) (a1:=1) (a2:=4096) hy3085) rfl ?_)
  rintro _ _ _ _ ⟨rfl,rfl,rfl⟩
  refine TV rfl rfl rfl (Val.not_ rfl) ?_
  refine TV rfl rfl rfl (Val.move rfl) ?_
  refine TK.split (p:=(!y3084)=true) h (fun hg3086 h=>?_) (fun hg3086 h=>?_)
  ·
   have hk3087:(!y3084)=true:=hg3086
   refine TL.cons (TL.not (Wt.no rfl rfl rfl hk3087) rfl ?_)
   refine TL.cons (TL.not (Wt.no rfl rfl rfl hk3087) rfl ?_)
   refine TL.cons (TL.not (Wt.no rfl rfl rfl hk3087) rfl ?_)
   refine TL.cons (TL.not (Wt.no rfl rfl rfl hk3087) rfl ?_)
   refine TV rfl rfl rfl (Val.pickY rfl hk3087 rfl) ?_
   refine TL.nil ?_
   exact fun a W hF hO=>⟨true,h,hF.sub ⟨rfl,rfl,rfl,rfl,trivial⟩,hO.selT (Ls:=[Blk b6 [VI a0.f0,.slice A1 a0.f1.length c2] 24,Blk b7 [VI a1] 3,Blk b8 [.bool false] 4,Mk []]) [2,1,0,3] 4 rfl rfl rfl⟩
  ·
   have hk3088:(!y3084)=false:=(by simpa using hg3086)
   refine TV (Wt.yes rfl rfl rfl hk3088) rfl rfl (Val.fieldAddrB Try.underlying24 rfl fsz3 rfl rfl rfl) ?_
   refine TV (Wt.yes rfl rfl rfl hk3088) rfl rfl (Val.loadB 2 agg3 rfl rfl rfl) ?_
   obtain ⟨y3089,hy3090,h⟩:=bind_no h
   refine TL.cons (TL.callV (Lin:=[]) (args:=[VI a0.f0,VI 0,VI 8]) (Wt.yes rfl rfl rfl hk3088) rfl rfl hbd14 rfl rfl (code_within.calls (a0:=a0.f0) (a1:=0) (a2:=8) hy3090) rfl ?_)
   rintro _ _ _ _ ⟨rfl,rfl,rfl⟩
   refine TV (Wt.yes rfl rfl rfl hk3088) rfl rfl (Val.not_ rfl) ?_
   refine TV rfl rfl rfl (Val.pickN rfl hk3088 rfl) ?_
   refine TL.nil ?_
   exact fun a W hF hO=>⟨(!y3089),h,hF.sub ⟨rfl,rfl,rfl,rfl,trivial⟩,hO.selT (Ls:=[Blk b6 [VI a0.f0,.slice A1 a0.f1.length c2] 24,Blk b7 [VI a1] 3,Blk b8 [.bool false] 4,Mk []]) [2,1,0,3] 4 rfl rfl rfl⟩
end Go.Proofs.Ytpngojifibakiaa.Sy
set_option linter.unusedVariables false
set_option linter.unusedSimpArgs false
namespace Go.Proofs.Ytpngojifibakiaa.Sy
open Go Go.RowKit Go.Proofs.YtpngojifibakiaaW.PrintWords Go.Proofs.Ytpngojifibakiaa.SyO
/-! #### Walks by number -/
theorem drop_nil {α : Type} {l : List α} {i : Nat} (h : l.drop i = []) : ¬ ((i : Int) < (l.length : Int)) := by
  have := List.drop_eq_nil_iff.1 h; omega
theorem drop_cons {α : Type} {l r : List α} {y : α} {i : Nat} (h : l.drop i = y :: r) : (i : Int) < (l.length : Int) ∧ at? l (i : Int) = some y ∧ l.drop (i + 1) = r ∧ y ∈ l := by
  have hl : i < l.length := by
    apply Classical.byContradiction; intro hn
    rw [List.drop_eq_nil_of_le (by omega)] at h; cases h
  rw [List.drop_eq_getElem_cons hl] at h
  injection h with h1 h2
  refine ⟨by omega, ?_, h2, by rw [← h1]; exact List.getElem_mem hl⟩
  unfold at?
  rw [if_pos (by omega)]
  simp [List.getElem?_eq_getElem hl, h1]
theorem w64 {n : Int} (h0 : -9223372036854775808 ≤ n) (h1 : n ≤ 9223372036854775807) : IntKind.i64.wrap n = n := by
  rw [IntKind.wrap_i64]; omega
theorem wsucc {i : Nat} (h : i ≤ 140737488355328) : IntKind.i64.wrap ((i : Int) + 1) = ((i + 1 : Nat) : Int) := by
  rw [w64 (by omega) (by omega)]; omega
/-! #### Few -/
def opsN (l : List S35) : Nat := (l.map (·.f0.length)).sum
theorem few_l1 {t : S24} {j : Nat} {y : S35} (hy : at? t.f1 (j : Int) = some y) (hl : y.f0.length ≤ 140737488355328) :
    ∀ (ys : List S37) (n i : Nat), y.f0.drop i = ys → ys.length < n → ∃ r, swagelaw14_Few.l1 t j n i = some r ∧ (r = .inl (.inl false) ∨ r = .inr () ∧ ∀ k o, ys[k]? = some o → i + k < 300 → o.f5.length ≤ 20) := by
  intro ys
  induction ys with
  | nil =>
    intro n i hdr hn
    obtain ⟨n, rfl⟩ : ∃ m, n = m + 1 := ⟨n - 1, by simp at hn; omega⟩
    rw [swagelaw14_Few.l1]
    simp only [jn, hy, Option.bind_some]
    rw [if_neg (drop_nil hdr)]
    exact ⟨_, rfl, .inr ⟨rfl, fun k o hk => by simp at hk⟩⟩
  | cons o ys ih =>
    intro n i hdr hn
    obtain ⟨n, rfl⟩ : ∃ m, n = m + 1 := ⟨n - 1, by simp at hn; omega⟩
    obtain ⟨h1, h2, h3, h4⟩ := drop_cons hdr
    rw [swagelaw14_Few.l1]
    simp only [jn, hy, h2, Option.bind_some]
    rw [if_pos h1]
    by_cases hi : i < 300
    · rw [if_pos (decide_eq_true (by omega))]
      by_cases ha : (20 : Int) < (o.f5.length : Int)
      · rw [if_pos ha]
        exact ⟨_, rfl, .inl rfl⟩
      · rw [if_neg ha, wsucc (by omega)]
        obtain ⟨r, r1, r2⟩ := ih n (i + 1) h3 (by simp at hn; omega)
        refine ⟨r, r1, ?_⟩
        rcases r2 with r2 | ⟨r2, r3⟩
        · exact .inl r2
        · refine .inr ⟨r2, fun k o' hk hlt => ?_⟩
          cases k with
          | zero => simp at hk; subst hk; omega
          | succ k => exact r3 k o' (by simpa using hk) (by omega)
    · rw [if_neg (by simp; omega)]
      refine ⟨_, rfl, .inr ⟨rfl, fun k o' hk hlt => by omega⟩⟩
theorem few_l0 {t : S24} (hl : t.f1.length ≤ 140737488355328) (hk : ∀ y ∈ t.f1, y.f0.length ≤ 140737488355328) :
    ∀ (ys : List S35) (n i x : Nat), t.f1.drop i = ys → ys.length < n → x ≤ i * 140737488355328 →
      ∃ r, swagelaw14_Few.l0 t n x i = some r ∧ (r = .inl false ∨ ∃ z : Int, r = .inr z ∧ (∀ k y, ys[k]? = some y → i + k < 100 → ∀ j o, y.f0[j]? = some o → j < 300 → o.f5.length ≤ 20) ∧ (i + ys.length ≤ 100 → z = ((x + opsN ys : Nat) : Int))) := by
  intro ys
  induction ys with
  | nil =>
    intro n i x hdr hn hx
    obtain ⟨n, rfl⟩ : ∃ m, n = m + 1 := ⟨n - 1, by simp at hn; omega⟩
    rw [swagelaw14_Few.l0]
    simp only [jn]
    rw [if_neg (drop_nil hdr)]
    exact ⟨_, rfl, .inr ⟨_, rfl, fun k o hk => by simp at hk, fun _ => by simp [opsN]⟩⟩
  | cons y ys ih =>
    intro n i x hdr hn hx
    obtain ⟨n, rfl⟩ : ∃ m, n = m + 1 := ⟨n - 1, by simp at hn; omega⟩
    obtain ⟨h1, h2, h3, h4⟩ := drop_cons hdr
    have hky := hk y h4
    rw [swagelaw14_Few.l0]
    simp only [jn]
    rw [if_pos h1]
    by_cases hi : i < 100
    · rw [if_pos (decide_eq_true (by omega)), h2]
      simp only [Option.bind_some]
      obtain ⟨r, r1, r2⟩ := few_l1 h2 hky y.f0 (y.f0.length + 1) 0 (by simp) (by omega)
      have r1' : swagelaw14_Few.l1 t i (y.f0.length + 1) 0 = some r := r1
      have e0 : ((some y).elim 0 (fun vy2231 : S35 => vy2231.f0.length) + 1) = y.f0.length + 1 := rfl
      rw [e0, r1']
      simp only [Option.bind_some]
      rcases r2 with rfl | ⟨rfl, r3⟩
      · exact ⟨_, rfl, .inl rfl⟩
      · have e : IntKind.i64.wrap ((x : Int) + (y.f0.length : Int)) = ((x + y.f0.length : Nat) : Int) := by rw [w64 (by omega) (by omega)]; omega
        simp only []
        rw [e, wsucc (by omega)]
        obtain ⟨q, q1, q2⟩ := ih n (i + 1) (x + y.f0.length) h3 (by simp at hn; omega) (by omega)
        refine ⟨q, q1, ?_⟩
        rcases q2 with q2 | ⟨z, q2, q3, q4⟩
        · exact .inl q2
        · refine .inr ⟨z, q2, fun k y' hk' hlt => ?_, fun hlen => ?_⟩
          · cases k with
            | zero =>
              simp at hk'; subst hk'
              intro j o hj hj3
              exact r3 j o hj (by omega)
            | succ k => exact q3 k y' (by simpa using hk') (by omega)
          · rw [q4 (by simp at hlen; omega)]
            simp only [opsN, List.map_cons, List.sum_cons]; omega
    · rw [if_neg (by simp; omega)]
      exact ⟨_, rfl, .inr ⟨_, rfl, fun k y' hk' hlt => by omega, fun hlen => by simp at hlen; omega⟩⟩
theorem opsN_mem {l : List S35} {y : S35} (h : y ∈ l) : y.f0.length ≤ opsN l := by
  induction l with
  | nil => cases h
  | cons x r ih =>
    rcases List.mem_cons.1 h with rfl | h
    · simp [opsN]
    · have := ih h; simp only [opsN, List.map_cons, List.sum_cons] at this ⊢; omega
/-- What Few lets in. -/
def Fewp (t : S24) : Prop := t.f1.length ≤ 40 ∧ opsN t.f1 ≤ 250 ∧ ∀ y ∈ t.f1, y.f0.length ≤ 250 ∧ ∀ o ∈ y.f0, o.f5.length ≤ 20
theorem few_f {t : S24} (h : ok24 t) : ∃ b, swagelaw14_Few.f t = some b ∧ (b = true → Fewp t) := by
  have hl : t.f1.length ≤ 140737488355328 := by have := h.2.1; omega
  have hk : ∀ y ∈ t.f1, y.f0.length ≤ 140737488355328 := fun y hy => by have := (h.2.2 y hy).1.1; omega
  obtain ⟨r, r1, r2⟩ := few_l0 hl hk t.f1 (t.f1.length + 1) 0 0 (by simp) (by omega) (by omega)
  have r1' : swagelaw14_Few.l0 t (t.f1.length + 1) 0 0 = some r := r1
  unfold swagelaw14_Few.f
  rw [r1']
  simp only [Option.bind_some]
  rcases r2 with rfl | ⟨z, rfl, r3, r4⟩
  · exact ⟨false, rfl, fun h => by cases h⟩
  · by_cases h40 : (t.f1.length : Int) ≤ 40
    · refine ⟨decide (z ≤ 250), by simp [h40], fun hz => ?_⟩
      have hz : z ≤ 250 := of_decide_eq_true hz
      have e := r4 (by omega)
      have ho : opsN t.f1 ≤ 250 := by omega
      refine ⟨by omega, ho, fun y hy => ?_⟩
      have h1 := opsN_mem hy
      refine ⟨by omega, fun o hox => ?_⟩
      obtain ⟨k, hk'⟩ := List.getElem?_of_mem hy
      obtain ⟨j, hj⟩ := List.getElem?_of_mem hox
      have hkl := (List.getElem?_eq_some_iff.1 hk').1
      have hjl := (List.getElem?_eq_some_iff.1 hj).1
      exact r3 k y hk' (by omega) j o hj (by omega)
    · exact ⟨false, by simp [h40], fun h => by cases h⟩
/-! #### Right -/
abbrev Rg (n : Int) : Prop := 1 ≤ n ∧ n ≤ 4096
/-- A right operation. -/
def Ro (o : S37) : Prop :=
  (o.f0 = 1 ∧ Rg o.f1 ∧ o.f2 = 0 ∧ o.f3 = 0 ∧ o.f5 = []) ∨ (o.f0 = 2 ∧ Rg o.f1 ∧ Rg o.f2 ∧ Rg o.f3 ∧ o.f5 = []) ∨ (o.f0 = 3 ∧ Rg o.f1 ∧ Rg o.f2 ∧ o.f3 = 0 ∧ o.f4 = 0 ∧ o.f5 = []) ∨
  (o.f0 = 4 ∧ Rg o.f1 ∧ Rg o.f2 ∧ o.f3 = 0 ∧ o.f5 = []) ∨ (o.f0 = 5 ∧ o.f1 = 0 ∧ Rg o.f2 ∧ Rg o.f3 ∧ o.f5 = []) ∨ (o.f0 = 6 ∧ Rg o.f1 ∧ o.f2 = 0 ∧ o.f3 = 0 ∧ o.f5 = []) ∨
  (o.f0 = 7 ∧ Rg o.f1 ∧ o.f2 = 0 ∧ o.f3 = 0 ∧ ∀ a ∈ o.f5, Rg a) ∨ (o.f0 = 8 ∧ Rg o.f1 ∧ o.f2 = 0 ∧ o.f3 = 0 ∧ o.f4 = 0 ∧ o.f5 = []) ∨ (o.f0 = 9 ∧ o.f1 = 0 ∧ Rg o.f2 ∧ o.f3 = 0 ∧ o.f4 = 0 ∧ o.f5 = [])
/-- A right Term, of so many blocks. -/
def Rt (t : S33) (n : Nat) : Prop :=
  (t.f0 = 1 ∧ 0 ≤ t.f2 ∧ t.f2 < n ∧ t.f1 = 0 ∧ t.f3 = 0) ∨ (t.f0 = 2 ∧ 0 ≤ t.f2 ∧ t.f2 < n ∧ 0 ≤ t.f3 ∧ t.f3 < n ∧ Rg t.f1) ∨ (t.f0 = 3 ∧ Rg t.f1 ∧ t.f2 = 0 ∧ t.f3 = 0) ∨ (t.f0 = 4 ∧ t.f1 = 0 ∧ t.f3 = 0)
theorem within_f (a b c : Int) : code_within.f a b c = some (decide (b ≤ a ∧ a ≤ c)) := by
  unfold code_within.f
  by_cases h : b ≤ a <;> simp [h]
theorem reg_f (a : Int) : code_reg.f a = some (decide (Rg a)) := by
  unfold code_reg.f Rg
  rw [within_f]; rfl
theorem field_f (a : Int) (b : Bool) : code_field.f a b = some (if b then decide (Rg a) else decide (a = 0)) := by
  unfold code_field.f
  rw [reg_f]
  by_cases h : a = 0
  · cases b <;> simp [h]
  · cases b <;> simp [h]
theorem shape_f (k : Int) : code_shapeOf.f k = some (if k = 1 ∨ k = 6 ∨ k = 7 then (⟨true, false, false, true⟩, true) else if k = 2 then (⟨true, true, true, true⟩, true) else if k = 3 then (⟨true, true, false, false⟩, true) else if k = 4 then (⟨true, true, false, true⟩, true) else if k = 5 then (⟨false, true, true, true⟩, true) else if k = 8 then (⟨true, false, false, false⟩, true) else if k = 9 then (⟨false, true, false, false⟩, true) else (⟨false, false, false, false⟩, false)) := by
  unfold code_shapeOf.f
  simp only [jn]
  by_cases h1 : k = 1
  · simp [h1]
  by_cases h6 : k = 6
  · simp [h6]
  by_cases h7 : k = 7
  · simp [h7]
  simp [h1, h6, h7]
  repeat' (first | rfl | split)
/-- A right function. -/
structure Rf (t : S24) : Prop where
  l1 : 1 ≤ t.f1.length
  p0 : 0 ≤ t.f0
  p1 : t.f0 ≤ 8
  term : ∀ y ∈ t.f1, Rt y.f1 t.f1.length
  op : ∀ y ∈ t.f1, ∀ o ∈ y.f0, Ro o
theorem loopd {α ρ : Type} {xs : List α} (hl : xs.length ≤ 140737488355328) {F : Nat → Int → ρ} {P : List α → ρ → Prop} (hend : ∀ n, P [] (F (n + 1) (xs.length : Int)))
    (hstep : ∀ n (i : Nat) y r, xs.drop i = y :: r → (i : Int) < (xs.length : Int) → at? xs (i : Int) = some y → y ∈ xs → IntKind.i64.wrap ((i : Int) + 1) = ((i + 1 : Nat) : Int) → P r (F n ((i + 1 : Nat) : Int)) → P (y :: r) (F (n + 1) (i : Int))) :
    ∀ n, xs.length < n → P xs (F n 0) := by
  have key : ∀ (ys : List α) (n i : Nat), xs.drop i = ys → ys.length < n → i ≤ xs.length → P ys (F n (i : Int)) := by
    intro ys
    induction ys with
    | nil =>
      intro n i hd hn hi
      have hlen := congrArg List.length hd
      rw [List.length_drop, List.length_nil] at hlen
      obtain rfl : i = xs.length := by omega
      obtain ⟨m, rfl⟩ : ∃ m, n = m + 1 := ⟨n - 1, by simp at hn; omega⟩
      exact hend m
    | cons y r ih =>
      intro n i hd hn hi
      obtain ⟨h1, h2, h3, h4⟩ := drop_cons hd
      obtain ⟨m, rfl⟩ : ∃ m, n = m + 1 := ⟨n - 1, by omega⟩
      exact hstep m i y r hd h1 h2 h4 (wsucc (by omega)) (ih m (i + 1) h3 (by simp at hn; omega) (by omega))
  intro n hn
  exact key xs n 0 (by simp) hn (by omega)
theorem at_nat {α : Type} {xs : List α} {i : Nat} {y : α} : at? xs (i : Int) = some y ↔ xs[i]? = some y := by
  unfold at?; rw [if_pos (by omega), Int.toNat_natCast]
theorem known_b (a : Int) : word_Known.f a = some (decide (1 ≤ a ∧ a ≤ 14)) := by
  unfold word_Known.f
  by_cases h : 1 ≤ a <;> simp [h]
def Ra (o : S37) : Bool := o.f5.all fun a => decide (Rg a)
theorem cop_l0 {o : S37} (hl : o.f5.length ≤ 1000) : (code_RightOp.l0 o (fun x => some (!(decide (0 ≤ x)))) (o.f5.length + 1) 0).bind (fun | .inl q => some q | .inr _ => some true) = some (Ra o) := by
  have := loopd (xs := o.f5) (F := fun n i => code_RightOp.l0 o (fun x => some (!(decide (0 ≤ x)))) n i) (P := fun ys r => r.bind (fun | .inl q => some q | .inr _ => some true) = some (ys.all fun a => decide (Rg a))) (by omega) (fun n => ?_) (fun n i y r hd hlt hat hm hw ih => ?_) (o.f5.length + 1) (by omega)
  · exact this
  · simp [code_RightOp.l0]
  · show Option.bind (code_RightOp.l0 o (fun x => some (!(decide (0 ≤ x)))) (n + 1) i) _ = _
    rw [code_RightOp.l0, if_pos hlt, hat, Option.bind_some]
    unfold code_RightOp_1.f
    rw [reg_f, Option.bind_some, Option.bind_some]
    by_cases hy : Rg y
    · rw [decide_eq_true hy, if_neg (by simp), hw]
      simp only [List.all_cons, decide_eq_true hy, Bool.true_and]
      exact ih
    · rw [decide_eq_false hy, if_pos (by simp)]
      simp [hy]
def okOp (o : S37) (k : Int) : Bool :=
  decide (1 ≤ o.f0 ∧ o.f0 ≤ 9) && (if o.f0 = 5 ∨ o.f0 = 9 then decide (o.f1 = 0) else decide (Rg o.f1)) && (if o.f0 = 2 ∨ o.f0 = 3 ∨ o.f0 = 4 ∨ o.f0 = 5 ∨ o.f0 = 9 then decide (Rg o.f2) else decide (o.f2 = 0)) &&
  (if o.f0 = 2 ∨ o.f0 = 5 then decide (Rg o.f3) else decide (o.f3 = 0)) &&
  (if o.f0 = 1 then true else if o.f0 = 2 then decide (1 ≤ o.f4 ∧ o.f4 ≤ 14) else if o.f0 = 4 ∨ o.f0 = 5 then decide (-2147483648 ≤ o.f4 ∧ o.f4 ≤ 2147483647) else if o.f0 = 6 then decide (0 ≤ o.f4 ∧ o.f4 ≤ 1048576) else if o.f0 = 7 then decide (0 ≤ o.f4 ∧ o.f4 < k) else decide (o.f4 = 0)) &&
  (if o.f0 = 7 then decide (o.f5.length ≤ 8) && Ra o else decide (o.f5.length = 0))
theorem nine {n : Int} (h1 : 1 ≤ n) (h9 : n ≤ 9) : n = 1 ∨ n = 2 ∨ n = 3 ∨ n = 4 ∨ n = 5 ∨ n = 6 ∨ n = 7 ∨ n = 8 ∨ n = 9 := by omega
theorem cop_f {o : S37} {k : Int} (hl : o.f5.length ≤ 20) (hk0 : 0 ≤ k) (hk1 : k ≤ 1000) : code_RightOp.f o k = some (okOp o k) := by
  have hw : IntKind.i64.wrap (k - 1) = k - 1 := w64 (by omega) (by omega)
  have hl0 := cop_l0 (o := o) (by omega)
  unfold code_RightOp.f code_immediate.f
  simp only [jn, shape_f, field_f, within_f, known_b, Option.bind_some, hw]
  clear hw
  unfold okOp
  generalize o.f5.length = L at *
  by_cases hkk : 1 ≤ o.f0 ∧ o.f0 ≤ 9
  · rcases nine hkk.1 hkk.2 with h | h | h | h | h | h | h | h | h <;> simp only [h] <;> simp [hl0]
    all_goals (try split) <;> (try split) <;> (try split) <;> (try split) <;> (try split) <;> simp_all [hl0] <;> first | (intros; omega) | skip
    first | refine Eq.trans hl0 ?_ | skip
    have h1 : o.f4 < k := by omega
    have h2 : L ≤ 8 := by omega
    simp [h1, h2]
  · simp only [decide_eq_false hkk]
    have : ¬ o.f0 = 1 ∧ ¬ o.f0 = 2 ∧ ¬ o.f0 = 3 ∧ ¬ o.f0 = 4 ∧ ¬ o.f0 = 5 ∧ ¬ o.f0 = 6 ∧ ¬ o.f0 = 7 ∧ ¬ o.f0 = 8 ∧ ¬ o.f0 = 9 := by omega
    obtain ⟨a1, a2, a3, a4, a5, a6, a7, a8, a9⟩ := this
    simp [a1, a2, a3, a4, a5, a6, a7, a8, a9]
theorem beq_dec (a b : Int) : (a == b) = decide (a = b) := by by_cases h : a = b <;> simp [h]
def okTerm (t : S33) (n : Int) : Bool :=
  if t.f0 = 1 then decide (0 ≤ t.f2 ∧ t.f2 < n) && decide (t.f1 = 0) && decide (t.f3 = 0)
  else if t.f0 = 2 then decide (0 ≤ t.f2 ∧ t.f2 < n) && decide (0 ≤ t.f3 ∧ t.f3 < n) && decide (Rg t.f1)
  else if t.f0 = 3 then decide (Rg t.f1) && decide (t.f2 = 0) && decide (t.f3 = 0)
  else if t.f0 = 4 then decide (1 ≤ t.f2 ∧ t.f2 ≤ 15) && decide (t.f1 = 0) && decide (t.f3 = 0) else false
theorem cterm_f {t : S33} {n : Int} (h0 : 0 ≤ n) (h1 : n ≤ 5000) : code_rightTerm.f t n = some (okTerm t n) := by
  have hw : IntKind.i64.wrap (n - 1) = n - 1 := w64 (by omega) (by omega)
  have hn : ∀ a : Int, (0 ≤ a ∧ a ≤ n - 1) ↔ (0 ≤ a ∧ a < n) := fun a => by omega
  unfold code_rightTerm.f okTerm
  simp only [within_f, reg_f, Option.bind_some, hw, hn]
  by_cases a1 : t.f0 = 1
  · simp only [a1, if_true]; by_cases q1 : 0 ≤ t.f2 ∧ t.f2 < n <;> simp [q1, beq_dec]
  by_cases a2 : t.f0 = 2
  · simp only [a2]; by_cases q1 : 0 ≤ t.f2 ∧ t.f2 < n <;> by_cases q2 : 0 ≤ t.f3 ∧ t.f3 < n <;> simp [q1, q2]
  by_cases a3 : t.f0 = 3
  · simp only [a3]; by_cases q1 : Rg t.f1 <;> simp [q1, beq_dec]
  by_cases a4 : t.f0 = 4
  · simp only [a4]; by_cases q1 : 1 ≤ t.f2 ∧ t.f2 ≤ 15 <;> simp [q1, beq_dec]
  simp [a1, a2, a3, a4]
def okFn (t : S24) (k : Int) : Bool :=
  decide (1 ≤ t.f1.length ∧ t.f1.length ≤ 4096) && decide (0 ≤ t.f0 ∧ t.f0 ≤ 8) && (t.f1.all fun y => okTerm y.f1 t.f1.length) && (t.f1.all fun y => y.f0.all fun o => okOp o k)
theorem cright_l2 {t : S24} (hl : t.f1.length ≤ 4096) {j : Int → Option Bool} : (∀ x : Nat, j x = some false) → ((t.f1.all fun y => okTerm y.f1 t.f1.length) = true ∧ code_Right.l2 t j (t.f1.length + 1) 0 = some (.inr ())) ∨ ((t.f1.all fun y => okTerm y.f1 t.f1.length) = false ∧ code_Right.l2 t j (t.f1.length + 1) 0 = some (.inl false)) := fun hj => by
  refine loopd (xs := t.f1) (F := fun n i => code_Right.l2 t j n i) (P := fun ys r => ((ys.all fun y => okTerm y.f1 t.f1.length) = true ∧ r = some (.inr ())) ∨ ((ys.all fun y => okTerm y.f1 t.f1.length) = false ∧ r = some (.inl false))) (by omega) (fun n => ?_) (fun n i y r hd hlt hat hm hw ih => ?_) (t.f1.length + 1) (by omega)
  · left; simp [code_Right.l2]
  · rw [code_Right.l2, if_pos hlt, hat, Option.bind_some, cterm_f (by omega) (by omega), Option.bind_some]
    cases hy : okTerm y.f1 t.f1.length with
    | true => rw [if_neg (by simp), hw]; simpa [hy] using ih
    | false => rw [if_pos (by simp), hj i]; right; simp [hy]
theorem cright_l1 {y : S35} {k : Int} (hk0 : 0 ≤ k) (hk1 : k ≤ 1000) (hl : y.f0.length ≤ 250) (ho : ∀ o ∈ y.f0, o.f5.length ≤ 20) {z : Nat} (hz : z ≤ 10000) : ((y.f0.all fun o => okOp o k) = true ∧ code_Right.l1 k y (y.f0.length + 1) 0 (z : Int) = some (.inr ((z + y.f0.length : Nat) : Int))) ∨ ((y.f0.all fun o => okOp o k) = false ∧ code_Right.l1 k y (y.f0.length + 1) 0 (z : Int) = some (.inl (.inl false))) := by
  have := loopd (xs := y.f0) (F := fun n i w => code_Right.l1 k y n i w) (P := fun os f => ∀ w : Nat, w + os.length ≤ 11000 → ((os.all fun o => okOp o k) = true ∧ f (w : Int) = some (.inr ((w + os.length : Nat) : Int))) ∨ ((os.all fun o => okOp o k) = false ∧ f (w : Int) = some (.inl (.inl false)))) (by omega) (fun n w hw => ?_) (fun n i o r hd hlt hat hm hw ih w hwl => ?_) (y.f0.length + 1) (by omega)
  · exact this z (by omega)
  · left; simp [code_Right.l1]
  · simp only [List.length_cons] at hwl
    show (_ ∧ code_Right.l1 k y (n + 1) i w = _) ∨ (_ ∧ code_Right.l1 k y (n + 1) i w = _)
    rw [code_Right.l1, if_pos hlt, hat, Option.bind_some]
    simp only [jn, wsucc (show w ≤ 140737488355328 by omega)]
    rw [if_neg (by omega), cop_f (ho o hm) hk0 hk1, Option.bind_some]
    cases hy : okOp o k with
    | true =>
      rw [if_neg (by simp), hw]
      have := ih (w + 1) (by omega)
      rw [show w + 1 + r.length = w + (o :: r).length by simp; omega] at this
      simpa [hy] using this
    | false => rw [if_pos (by simp)]; right; simp [hy]
theorem cright_l0 {t : S24} {k : Int} (hk0 : 0 ≤ k) (hk1 : k ≤ 1000) (hf : Fewp t) : ((t.f1.all fun y => y.f0.all fun o => okOp o k) = true ∧ ∃ x, code_Right.l0 t k (t.f1.length + 1) 0 0 = some (.inr x)) ∨ ((t.f1.all fun y => y.f0.all fun o => okOp o k) = false ∧ code_Right.l0 t k (t.f1.length + 1) 0 0 = some (.inl false)) := by
  obtain ⟨f1, f2, f3⟩ := hf
  have := loopd (xs := t.f1) (F := fun n i w => code_Right.l0 t k n i w) (P := fun os f => ∀ w : Nat, w + 250 * os.length ≤ 10000 → ((os.all fun y => y.f0.all fun o => okOp o k) = true ∧ ∃ x, f (w : Int) = some (.inr x)) ∨ ((os.all fun y => y.f0.all fun o => okOp o k) = false ∧ f (w : Int) = some (.inl false))) (by omega) (fun n w hw => ?_) (fun n i y r hd hlt hat hm hw ih w hwl => ?_) (t.f1.length + 1) (by omega)
  · exact this 0 (by omega)
  · left; simp [code_Right.l0]
  · simp only [List.length_cons] at hwl
    show (_ ∧ ∃ x, code_Right.l0 t k (n + 1) i w = _) ∨ (_ ∧ code_Right.l0 t k (n + 1) i w = _)
    rw [code_Right.l0, if_pos hlt, hat, Option.bind_some]
    rcases cright_l1 hk0 hk1 (f3 y hm).1 (f3 y hm).2 (z := w) (by omega) with ⟨h1, h2⟩ | ⟨h1, h2⟩
    · rw [h2, Option.bind_some]
      simp only [hw]
      have := ih (w + y.f0.length) (by have := (f3 y hm).1; omega)
      simpa [h1] using this
    · rw [h2, Option.bind_some]; right; simp [h1]
theorem cright_f {t : S24} {k : Int} (hk0 : 0 ≤ k) (hk1 : k ≤ 1000) (hf : Fewp t) : code_Right.f t k = some (okFn t k) := by
  have hf' := hf
  obtain ⟨f1, f2, f3⟩ := hf'
  unfold code_Right.f okFn
  simp only [jn, within_f, Option.bind_some]
  have e1 : ((1 : Int) ≤ (t.f1.length : Int) ∧ (t.f1.length : Int) ≤ 4096) ↔ (1 ≤ t.f1.length ∧ t.f1.length ≤ 4096) := by omega
  simp only [e1]
  by_cases h1 : 1 ≤ t.f1.length ∧ t.f1.length ≤ 4096
  · by_cases h2 : 0 ≤ t.f0 ∧ t.f0 ≤ 8
    · simp only [decide_eq_true h1, decide_eq_true h2, Bool.not_true, Bool.false_eq_true, if_false, Bool.true_and]
      have key : ∀ (j : Int → Option Bool) (hj : ∀ x : Nat, j x = some false) (X : Bool) (hX : j (-1) = some X), Option.bind (code_Right.l2 t j (t.f1.length + 1) 0) (fun r => match r with | .inl q => some q | .inr _ => j (-1)) = some ((t.f1.all fun y => okTerm y.f1 t.f1.length) && X) := by
        intro j hj X hX
        rcases cright_l2 (t := t) (by omega) hj with ⟨h3, h4⟩ | ⟨h3, h4⟩
        · rw [h4, h3]; simp [hX]
        · rw [h4, h3]; simp
      refine key _ (fun x => by simp) (t.f1.all fun y => y.f0.all fun o => okOp o k) ?_
      rw [if_neg (by omega)]
      rcases cright_l0 hk0 hk1 hf with ⟨h5, x, h6⟩ | ⟨h5, h6⟩ <;> rw [h6, h5] <;> rfl
    · simp [h1, h2]
  · simp [h1]
end Go.Proofs.Ytpngojifibakiaa.Sy
set_option linter.unusedVariables false
set_option linter.unusedSimpArgs false
set_option maxRecDepth 100000
set_option maxHeartbeats 4000000
namespace Go.Proofs.Ytpngojifibakiaa.Sy
open Go Go.RowKit Go.Proofs.YtpngojifibakiaaW.PrintWords 
def forward_Loads.l1 (y909:S35):Nat → Int → Int → Option (Int)
 | 0,_,_=>none
 | n1043 + 1,x1001,x1002=>(if x1002 < (y909.f0.length:Int) then (at? y909.f0 x1002).bind fun y1100=>jn (γ:=(Int)) (fun (x1115:Int)=>forward_Loads.l1 y909 n1043 x1115 (IntKind.i64.wrap (x1002 + 1))) (fun (j1116:(Int → Option (Int)))=>(if y1100.f0=4 then j1116 (IntKind.i64.wrap (x1001 + 1)) else j1116 x1001)) else some x1001)
def forward_Loads.l0 (a0:S24):Nat → Int → Int → Option (Int)
 | 0,_,_=>none
 | n591 + 1,x394,x395=>(if x395 < (a0.f1.length:Int) then (at? a0.f1 x395).bind fun y909=>(forward_Loads.l1 y909 (y909.f0.length + 1) x394 0).bind fun (x1041:Int)=>forward_Loads.l0 a0 n591 x1041 (IntKind.i64.wrap (x395 + 1)) else some x394)
def forward_Loads.f (a0:S24):Option Int:=(forward_Loads.l0 a0 (a0.f1.length + 1) 0 0).bind fun (x589:Int)=>some x589
def forward_Loads.post (G:Gd)  (r:Int) (v:Value) (G':Gd) (Lr:List Ch):Prop:=G=G'∧v=VI r∧Lr=[]
theorem forward_Loads.calls {G:Gd} {r:Int} {a0:S24} {A1:Option Addr} {c2:Nat} (hr3:Rd G k35 A1 a0.f1) (hl4:a0.f1.length ≤ c2) (h:forward_Loads.f a0=some r):Fn Try.prog 8 G [] [.agg #[VI a0.f0,.slice A1 a0.f1.length c2]] (forward_Loads.post G  r):=by
 refine Fn.intro (e:=[(0,.agg #[VI a0.f0,.slice A1 a0.f1.length c2])]) 30 Try.func8 rfl Try.ntmps8 rfl rfl (Nat.le_of_ble_eq_true rfl) (fun L=>?_)
 unfold forward_Loads.f at h
 refine TC.seq ?_
 refine TC.region ?_
 refine TL.cons (TL.box (cs:=[VI a0.f0,.slice A1 a0.f1.length c2]) rfl rfl rfl rfl (fun b5=>?_))
 refine TV rfl rfl rfl (Val.assign rfl) ?_
 refine TL.nil ?_
 refine TQ.then_ ?_
 refine TC.seq ?_
 refine TC.region ?_
 refine TV rfl rfl rfl (Val.assign rfl) ?_
 refine TL.nil ?_
 refine TQ.then_ ?_
 refine TC.seq ?_
 refine TC.seq ?_
 refine TC.region ?_
 refine TV rfl rfl rfl (Val.fieldAddrB Try.underlying24 rfl fsz22 rfl rfl rfl) ?_
 refine TV rfl rfl rfl (Val.loadB 0 agg22 rfl rfl rfl) ?_
 refine TV rfl rfl rfl (Val.len Try.underlying22 rfl) ?_
 refine TV rfl rfl rfl (Val.move rfl) ?_
 refine TL.nil ?_
 refine TQ.then_ ?_
 obtain ⟨o590,ho590,ko590⟩:=bind_no h
 clear h
 refine TC.tail (fun a W=>∃ (x589:Int),x589=o590∧Fr 30 a [(3,VI x589)]∧Own G (L) W) ?_ ?_
 ·
  rintro a W ⟨x589,rfl,hF,hO⟩
  have h:=ko590
  clear ko590 ho590
  refine TQ.use ?_ hF hO
  clear hF hO
  refine TQ.then_ ?_
  refine TC.seq ?_
  refine TC.region ?_
  refine TV rfl rfl rfl (Val.move rfl) ?_
  refine TV rfl rfl rfl (Val.assign rfl) ?_
  refine TL.nil ?_
  refine TQ.then_ ?_
  refine TC.ret ?_
  obtain rfl:=Option.some.inj h
  exact TQ.fin (.inl rfl) rfl Try.results8 (.tmp rfl .nil) rfl (FRel.mk (Ls:=[]) [] 0 (Gd.le.refl _) rfl rfl rfl ⟨rfl,rfl,rfl⟩)
 ·
  refine TC.block ?_
  intro a W hF hO
  have hS:∃ (x394:Int) (x395:Int),forward_Loads.l0 a0 (a0.f1.length + 1) x394 x395=some o590∧Fr 30 a [(3,VI x394),(9,.slice A1 a0.f1.length c2),(10,VI (a0.f1.length:Int)),(11,VI x395)]∧Own G (L) W:=by
   exact ⟨0,0,ho590,hF.sub ⟨rfl,rfl,rfl,rfl,trivial⟩,hO.selT (Ls:=[]) [] 1 rfl rfl rfl⟩
  clear hF hO ho590 ko590
  refine TC.loop (fun n591 a W=>∃ (x394:Int) (x395:Int),forward_Loads.l0 a0 n591 x394 x395=some o590∧Fr 30 a [(3,VI x394),(9,.slice A1 a0.f1.length c2),(10,VI (a0.f1.length:Int)),(11,VI x395)]∧Own G (L) W) ?_ ?_ hS
  ·
   rintro a W ⟨x394,x395,h,hF,hO⟩
   exact none_no h
  ·
   clear hS
   rintro n591 a W ⟨x394,x395,h,hF,hO⟩
   rw [forward_Loads.l0] at h
   refine TC.use ?_ hF hO
   clear hF hO
   refine TC.seq ?_
   refine TC.region ?_
   refine TV rfl rfl rfl (Val.cmp rfl rfl run_lss) ?_
   refine TL.nil ?_
   refine TQ.then_ ?_
   refine TC.seq ?_
   refine TC.cond_p rfl h (fun hc784 h=>?_) (fun hc784 h=>?_)
   ·
    refine TC.skip ?_
    refine TQ.then_ ?_
    refine TC.seq ?_
    refine TC.block ?_
    refine TC.seq ?_
    refine TC.region ?_
    obtain ⟨y909,hx910,h⟩:=bind_no h
    obtain ⟨ad911,cs917,hA912,hi913,hj914,hcl915,hK916⟩:=Rd.at hr3 hx910
    obtain ⟨A918,c919,rfl,hr920,hl921⟩:=k35_openR hK916
    refine TV rfl rfl rfl (Val.indexAddr Try.underlying22 fsz35 rfl hA912 rfl hi913 hj914) ?_
    refine TV rfl rfl rfl (Val.loadsS (cs:=[.slice A918 y909.f0.length c919,VI y909.f1.f0,VI y909.f1.f1,VI y909.f1.f2,VI y909.f1.f3]) agg35 fsz35 rfl rfl (Cl.sub (off:=0) (n:=5) hcl915 rfl)) ?_
    refine TL.cons (TL.alloc (cs:=[.slice none 0 0,VI 0,VI 0,VI 0,VI 0]) rfl rfl zr35 rfl (fun b922=>?_))
    refine TL.cons (TL.store 0 (ds:=[.slice A918 y909.f0.length c919,VI y909.f1.f0,VI y909.f1.f1,VI y909.f1.f2,VI y909.f1.f3]) (cs':=[.slice A918 y909.f0.length c919,VI y909.f1.f0,VI y909.f1.f1,VI y909.f1.f2,VI y909.f1.f3]) (L':=(Blk b922 [.slice A918 y909.f0.length c919,VI y909.f1.f0,VI y909.f1.f1,VI y909.f1.f2,VI y909.f1.f3] 35::L)) rfl fsz35 rfl rfl rfl rfl rfl (Nat.le_of_ble_eq_true rfl) rfl rfl ?_)
    refine TL.nil ?_
    refine TQ.then_ ?_
    refine TC.seq ?_
    refine TC.region ?_
    refine TV rfl rfl rfl (Val.fieldAddrB Try.underlying35 rfl fsz31 rfl rfl rfl) ?_
    refine TV rfl rfl rfl (Val.loadB 0 agg31 rfl rfl rfl) ?_
    refine TV rfl rfl rfl (Val.len Try.underlying31 rfl) ?_
    refine TV rfl rfl rfl (Val.move rfl) ?_
    refine TL.nil ?_
    refine TQ.then_ ?_
    obtain ⟨o1042,ho1042,ko1042⟩:=bind_no h
    clear h
    refine TC.tail (fun a W=>∃ (x1041:Int),x1041=o1042∧Fr 30 a [(3,VI x1041),(9,.slice A1 a0.f1.length c2),(10,VI (a0.f1.length:Int)),(11,VI x395)]∧Own G (L) W) ?_ ?_
    ·
     rintro a W ⟨x1041,rfl,hF,hO⟩
     have h:=ko1042
     clear ko1042 ho1042
     refine TQ.use ?_ hF hO
     clear hF hO
     refine TQ.inB ?_
     refine TQ.then_ ?_
     refine TC.region ?_
     refine TV rfl rfl rfl (Val.cmp rfl rfl run_add) ?_
     refine TV rfl rfl rfl (Val.move rfl) ?_
     refine TL.nil ?_
     exact fun a W hF hO=>⟨x1041,IntKind.i64.wrap (x395 + 1),h,hF.sub ⟨rfl,rfl,rfl,rfl,trivial⟩,hO.selT (Ls:=[]) [] 0 rfl rfl rfl⟩
    ·
     refine TC.block ?_
     intro a W hF hO
     have hS:∃ (x1001:Int) (x1002:Int),forward_Loads.l1 y909 (y909.f0.length + 1) x1001 x1002=some o1042∧Fr 30 a [(3,VI x1001),(9,.slice A1 a0.f1.length c2),(10,VI (a0.f1.length:Int)),(11,VI x395),(16,.slice A918 y909.f0.length c919),(17,VI (y909.f0.length:Int)),(18,VI x1002)]∧Own G (L) W:=by
      exact ⟨x394,0,ho1042,hF.sub ⟨rfl,rfl,rfl,rfl,rfl,rfl,rfl,trivial⟩,hO.selT (Ls:=[]) [] 1 rfl rfl rfl⟩
     clear hF hO ho1042 ko1042
     refine TC.loop (fun n1043 a W=>∃ (x1001:Int) (x1002:Int),forward_Loads.l1 y909 n1043 x1001 x1002=some o1042∧Fr 30 a [(3,VI x1001),(9,.slice A1 a0.f1.length c2),(10,VI (a0.f1.length:Int)),(11,VI x395),(16,.slice A918 y909.f0.length c919),(17,VI (y909.f0.length:Int)),(18,VI x1002)]∧Own G (L) W) ?_ ?_ hS
     ·
      rintro a W ⟨x1001,x1002,h,hF,hO⟩
      exact none_no h
     ·
      clear hS
      rintro n1043 a W ⟨x1001,x1002,h,hF,hO⟩
      rw [forward_Loads.l1] at h
      refine TC.use ?_ hF hO
      clear hF hO
      refine TC.seq ?_
      refine TC.region ?_
      refine TV rfl rfl rfl (Val.cmp rfl rfl run_lss) ?_
      refine TL.nil ?_
      refine TQ.then_ ?_
      refine TC.seq ?_
      refine TC.cond_p rfl h (fun hc1081 h=>?_) (fun hc1081 h=>?_)
      ·
       refine TC.skip ?_
       refine TQ.then_ ?_
       refine TC.seq ?_
       refine TC.block ?_
       refine TC.seq ?_
       refine TC.region ?_
       obtain ⟨y1100,hx1101,h⟩:=bind_no h
       obtain ⟨ad1102,cs1108,hA1103,hi1104,hj1105,hcl1106,hK1107⟩:=Rd.at hr920 hx1101
       obtain ⟨A1109,c1110,rfl,hr1111,hl1112⟩:=k37_openR hK1107
       refine TV rfl rfl rfl (Val.indexAddr Try.underlying31 fsz37 rfl hA1103 rfl hi1104 hj1105) ?_
       refine TV rfl rfl rfl (Val.loadsS (cs:=[VI y1100.f0,VI y1100.f1,VI y1100.f2,VI y1100.f3,VI y1100.f4,.slice A1109 y1100.f5.length c1110]) agg37 fsz37 rfl rfl (Cl.sub (off:=0) (n:=6) hcl1106 rfl)) ?_
       refine TL.cons (TL.alloc (cs:=[VI 0,VI 0,VI 0,VI 0,VI 0,.slice none 0 0]) rfl rfl zr37 rfl (fun b1113=>?_))
       refine TL.cons (TL.store 0 (ds:=[VI y1100.f0,VI y1100.f1,VI y1100.f2,VI y1100.f3,VI y1100.f4,.slice A1109 y1100.f5.length c1110]) (cs':=[VI y1100.f0,VI y1100.f1,VI y1100.f2,VI y1100.f3,VI y1100.f4,.slice A1109 y1100.f5.length c1110]) (L':=(Blk b1113 [VI y1100.f0,VI y1100.f1,VI y1100.f2,VI y1100.f3,VI y1100.f4,.slice A1109 y1100.f5.length c1110] 37::L)) rfl fsz37 rfl rfl rfl rfl rfl (Nat.le_of_ble_eq_true rfl) rfl rfl ?_)
       refine TL.nil ?_
       refine TQ.then_ ?_
       refine TC.seq ?_
       refine TC.region ?_
       refine TV rfl rfl rfl (Val.fieldAddrB Try.underlying37 rfl fsz3 rfl rfl rfl) ?_
       refine TV rfl rfl rfl (Val.loadB 0 agg3 rfl rfl rfl) ?_
       refine TV rfl rfl rfl (Val.cmp rfl rfl run_eql) ?_
       refine TL.nil ?_
       refine TQ.then_ ?_
       obtain ⟨j1116,hj1116,h⟩:=jn_no h
       refine TC.tail (fun a W=>∃ (x1115:Int),j1116 x1115=some o1042∧Fr 30 a [(3,VI x1115),(9,.slice A1 a0.f1.length c2),(10,VI (a0.f1.length:Int)),(11,VI x395),(16,.slice A918 y909.f0.length c919),(17,VI (y909.f0.length:Int)),(18,VI x1002)]∧Own G (L) W) ?_ ?_
       ·
        rintro a W ⟨x1115,h,hF,hO⟩
        rw [hj1116] at h
        refine TQ.use ?_ hF hO
        clear hF hO
        refine TQ.inB ?_
        refine TQ.then_ ?_
        refine TC.region ?_
        refine TV rfl rfl rfl (Val.cmp rfl rfl run_add) ?_
        refine TV rfl rfl rfl (Val.move rfl) ?_
        refine TL.nil ?_
        exact fun a W hF hO=>⟨x1115,IntKind.i64.wrap (x1002 + 1),h,hF.sub ⟨rfl,rfl,rfl,rfl,rfl,rfl,rfl,trivial⟩,hO.selT (Ls:=[]) [] 0 rfl rfl rfl⟩
       ·
        refine TC.cond_p rfl h (fun hc1117 h=>?_) (fun hc1117 h=>?_)
        ·
         refine TC.region ?_
         refine TV rfl rfl rfl (Val.move rfl) ?_
         refine TV rfl rfl rfl (Val.cmp rfl rfl run_add) ?_
         refine TV rfl rfl rfl (Val.assign rfl) ?_
         refine TL.nil ?_
         exact fun a W hF hO=>⟨IntKind.i64.wrap (x1001 + 1),h,hF.sub ⟨rfl,rfl,rfl,rfl,rfl,rfl,rfl,trivial⟩,hO.selT (Ls:=[]) [] 1 rfl rfl rfl⟩
        ·
         refine TC.skip ?_
         exact fun a W hF hO=>⟨x1001,h,hF.sub ⟨rfl,rfl,rfl,rfl,rfl,rfl,rfl,trivial⟩,hO.selT (Ls:=[]) [] 1 rfl rfl rfl⟩
      ·
       refine TC.exit ?_
       refine TQ.thenX ?_
       refine TQ.thenX ?_
       refine TQ.inBX ?_
       exact fun a W hF hO=>⟨x1001,Option.some.inj h,hF.sub ⟨rfl,rfl,rfl,rfl,trivial⟩,hO.selT (Ls:=[]) [] 0 rfl rfl rfl⟩
   ·
    refine TC.exit ?_
    refine TQ.thenX ?_
    refine TQ.thenX ?_
    refine TQ.inBX ?_
    exact fun a W hF hO=>⟨x394,Option.some.inj h,hF.sub ⟨rfl,trivial⟩,hO.selT (Ls:=[]) [] 0 rfl rfl rfl⟩
def slices_Clone_int_int.f (a0:(List Int)):Option (List Int):=(if ([]:List Int).length + a0.length ≤ 17592186044416 then some (([]:List Int) ++ a0) else none)
def slices_Clone_int_int.post (G:Gd)  (r:(List Int)) (v:Value) (G':Gd) (Lr:List Ch):Prop:=G=G'∧∃ (A_1:Option Addr) (c_1:Nat),v=.slice A_1 r.length c_1∧Lr=[Row kI 3 (.slice A_1 r.length c_1) r]
theorem slices_Clone_int_int.calls {G:Gd} {r:(List Int)} {a0:(List Int)} {A1:Option Addr} {c2:Nat} (hr3:Rd G kI A1 a0) (hl4:a0.length ≤ c2) (h:slices_Clone_int_int.f a0=some r):Fn Try.prog 22 G [] [.slice A1 a0.length c2] (slices_Clone_int_int.post G  r):=by
 refine Fn.intro (e:=[(0,.slice A1 a0.length c2)]) 8 Try.func22 rfl Try.ntmps22 rfl rfl (Nat.le_of_ble_eq_true rfl) (fun L=>?_)
 unfold slices_Clone_int_int.f at h
 refine TC.seq ?_
 refine TC.region ?_
 refine TV rfl rfl rfl (Val.assign rfl) ?_
 refine TL.nil ?_
 refine TQ.then_ ?_
 refine TC.seq ?_
 refine TC.seq ?_
 refine TC.region ?_
 refine TV rfl rfl rfl (Val.move rfl) ?_
 refine TV rfl rfl rfl (Val.eqNil Try.underlying25 rfl) ?_
 refine TL.nil ?_
 refine TQ.then_ ?_
 refine TC.cond rfl (fun hc6=>?_) (fun hc6=>?_)
 ·
  have hn:=Rd.nilEq hr3 hc6
  have h:some ([]:List Int)=some r:=by first | (simpa [hn] using h) | (simp [hn] at h; simp [h,hn])
  refine TC.seq ?_
  refine TC.region ?_
  refine TV rfl rfl rfl (Val.assign rfl) ?_
  refine TL.nil ?_
  refine TQ.then_ ?_
  refine TC.ret ?_
  refine TQ.thenR ?_
  refine TQ.nilRow kI 3 ?_
  obtain rfl:=Option.some.inj h
  exact TQ.fin (.inl rfl) rfl Try.results22 (.tmp rfl .nil) rfl (FRel.mk (Ls:=[Row kI 3 (.slice none 0 0) ([]:List Int)]) [0] 1 (Gd.le.refl _) rfl rfl rfl ⟨rfl,none,0,rfl,rfl⟩)
 ·
  refine TC.skip ?_
  refine TQ.then_ ?_
  refine TC.seq ?_
  refine TC.region ?_
  refine TL.cons (TL.buildSlice0 kI rfl rfl Try.underlying25 zs3 (fun b8=>?_))
  refine TV rfl rfl rfl (Val.move rfl) ?_
  obtain ⟨ha10,h⟩:=ite_no h
  refine TL.cons (TL.appendR (xs:=([]:List Int)) (ys:=a0) kI kI rfl rfl Try.underlying25 inf3 rfl (Nat.le_of_ble_eq_true rfl) (Nat.le_of_ble_eq_true rfl) rfl rfl (by omega) hr3 rfl (fun _ _ _ _ _ h=>h) (fun A11 c12=>?_))
  refine TV rfl rfl rfl (Val.assign rfl) ?_
  refine TL.nil ?_
  refine TQ.then_ ?_
  refine TC.ret ?_
  obtain rfl:=Option.some.inj h
  exact TQ.fin (.inl rfl) rfl Try.results22 (.tmp rfl .nil) rfl (FRel.mk (Ls:=[Row kI 3 (.slice A11 (([]:List Int) ++ a0).length c12) (([]:List Int) ++ a0)]) [0] 1 (Gd.le.refl _) rfl rfl rfl ⟨rfl,A11,c12,rfl,rfl⟩)
def forward_known_stored.f (a0_0:MqS) (a1:S37) (a2:(List Int)):Option MqS:=some (qdelf a0_0 (fun k _=>storedP a1.f2 a1.f4 a2 k))
def forward_known_stored.post (G:Gd) (b1:Nat) (A2:Option Addr) (c3:Nat) (A6:Option Addr) (c7:Nat) (a0_0:MqS) (a1:S37) (a2:(List Int)) (r:MqS) (v:Value) (G':Gd) (Lr:List Ch):Prop:=G=G'∧v=.tuple #[]∧Lr=[Mq Try.prog 59 3 b1 r]
theorem forward_known_stored.calls {G:Gd} {r:MqS} {a0_0:MqS} {a1:S37} {a2:(List Int)} {b1:Nat} {A2:Option Addr} {c3:Nat} {A6:Option Addr} {c7:Nat} (hr4:Rd G kI A2 a1.f5) (hl5:a1.f5.length ≤ c3) (hr8:Rd G kI A6 a2) (hl9:a2.length ≤ c7) (h:forward_known_stored.f a0_0 a1 a2=some r):Fn Try.prog 34 G [Mq Try.prog 59 3 b1 a0_0] [.map (some b1),.agg #[VI a1.f0,VI a1.f1,VI a1.f2,VI a1.f3,VI a1.f4,.slice A2 a1.f5.length c3],.slice A6 a2.length c7] (forward_known_stored.post G b1 A2 c3 A6 c7 a0_0 a1 a2 r):=by
 refine Fn.intro (e:=[(0,.map (some b1)),(1,.agg #[VI a1.f0,VI a1.f1,VI a1.f2,VI a1.f3,VI a1.f4,.slice A2 a1.f5.length c3]),(2,.slice A6 a2.length c7)]) 9 Try.func34 rfl Try.ntmps34 rfl rfl (Nat.le_of_ble_eq_true rfl) (fun L=>?_)
 unfold forward_known_stored.f at h
 refine TC.seq ?_
 refine TC.region ?_
 refine TL.cons (TL.box (cs:=[VI a1.f0,VI a1.f1,VI a1.f2,VI a1.f3,VI a1.f4,.slice A2 a1.f5.length c3]) rfl rfl rfl rfl (fun b10=>?_))
 refine TL.cons (TL.box (cs:=[.slice A6 a2.length c7]) rfl rfl rfl rfl (fun b11=>?_))
 refine TL.nil ?_
 refine TQ.then_ ?_
 refine TC.region ?_
 refine TV rfl rfl rfl (Val.move rfl) ?_
 refine TV rfl rfl rfl (Val.makeFunc (xs:=[]) (ys:=[VP b10 0,VP b11 0]) rfl rfl) ?_
 refine TK.sel (Ls:=[Mq Try.prog 59 3 b1 a0_0,Blk b10 [VI a1.f0,VI a1.f1,VI a1.f2,VI a1.f3,VI a1.f4,.slice A2 a1.f5.length c3] 37,Blk b11 [.slice A6 a2.length c7] 25]) [2,1,0] 3 rfl rfl rfl ?_
 refine TL.cons (TL.callV (Lin:=[Mq Try.prog 59 3 b1 a0_0,Blk b10 [VI a1.f0,VI a1.f1,VI a1.f2,VI a1.f3,VI a1.f4,.slice A2 a1.f5.length c3] 37,Blk b11 [.slice A6 a2.length c7] 25]) (args:=[.map (some b1),.func (.func 40) #[] #[VP b10 0,VP b11 0]]) rfl rfl rfl hbd39 rfl rfl (del_stored hr8 hl9 hr4 hl5) rfl ?_)
 rintro _ _ _ _ ⟨rfl,rfl,rfl⟩
 refine TL.nil ?_
 obtain rfl:=Option.some.inj h
 exact TQ.fin (.inr rfl) rfl Try.results34 .nil rfl (FRel.mk (Ls:=[Mq Try.prog 59 3 b1 (qdelf a0_0 (fun k _=>storedP a1.f2 a1.f4 a2 k))]) [0] 3 (Gd.le.refl _) rfl rfl rfl ⟨rfl,rfl,rfl⟩)
def forward_known_set.f (a0_0:MqS) (a1:Int):Option MqS:=some (qdelf a0_0 (fun k v=>setP a1 k v))
def forward_known_set.post (G:Gd) (b1:Nat) (a0_0:MqS) (a1:Int) (r:MqS) (v:Value) (G':Gd) (Lr:List Ch):Prop:=G=G'∧v=.tuple #[]∧Lr=[Mq Try.prog 59 3 b1 r]
theorem forward_known_set.calls {G:Gd} {r:MqS} {a0_0:MqS} {a1:Int} {b1:Nat} (h:forward_known_set.f a0_0 a1=some r):Fn Try.prog 35 G [Mq Try.prog 59 3 b1 a0_0] [.map (some b1),VI a1] (forward_known_set.post G b1 a0_0 a1 r):=by
 refine Fn.intro (e:=[(0,.map (some b1)),(1,VI a1)]) 7 Try.func35 rfl Try.ntmps35 rfl rfl (Nat.le_of_ble_eq_true rfl) (fun L=>?_)
 unfold forward_known_set.f at h
 refine TC.seq ?_
 refine TC.region ?_
 refine TL.cons (TL.box (cs:=[VI a1]) rfl rfl rfl rfl (fun b2=>?_))
 refine TL.nil ?_
 refine TQ.then_ ?_
 refine TC.region ?_
 refine TV rfl rfl rfl (Val.move rfl) ?_
 refine TV rfl rfl rfl (Val.makeFunc (xs:=[]) (ys:=[VP b2 0]) rfl rfl) ?_
 refine TK.sel (Ls:=[Mq Try.prog 59 3 b1 a0_0,Blk b2 [VI a1] 3]) [1,0] 2 rfl rfl rfl ?_
 refine TL.cons (TL.callV (Lin:=[Mq Try.prog 59 3 b1 a0_0,Blk b2 [VI a1] 3]) (args:=[.map (some b1),.func (.func 41) #[] #[VP b2 0]]) rfl rfl rfl hbd39 rfl rfl (del_set) rfl ?_)
 rintro _ _ _ _ ⟨rfl,rfl,rfl⟩
 refine TL.nil ?_
 obtain rfl:=Option.some.inj h
 exact TQ.fin (.inr rfl) rfl Try.results35 .nil rfl (FRel.mk (Ls:=[Mq Try.prog 59 3 b1 (qdelf a0_0 (fun k v=>setP a1 k v))]) [0] 2 (Gd.le.refl _) rfl rfl rfl ⟨rfl,rfl,rfl⟩)
def code_Sets.f (a0:S37):Option Int:=(code_shapeOf.f a0.f0).bind fun (y6:(S66 × Bool))=>(if (!y6.1.f0)=true then some 0 else some a0.f1)
def code_Sets.post (G:Gd)  (r:Int) (v:Value) (G':Gd) (Lr:List Ch):Prop:=G=G'∧v=VI r∧Lr=[]
theorem code_Sets.calls {G:Gd} {r:Int} {a0:S37} {A1:Option Addr} {c2:Nat} (hr3:Rd G kI A1 a0.f5) (hl4:a0.f5.length ≤ c2) (h:code_Sets.f a0=some r):Fn Try.prog 36 G [] [.agg #[VI a0.f0,VI a0.f1,VI a0.f2,VI a0.f3,VI a0.f4,.slice A1 a0.f5.length c2]] (code_Sets.post G  r):=by
 refine Fn.intro (e:=[(0,.agg #[VI a0.f0,VI a0.f1,VI a0.f2,VI a0.f3,VI a0.f4,.slice A1 a0.f5.length c2])]) 16 Try.func36 rfl Try.ntmps36 rfl rfl (Nat.le_of_ble_eq_true rfl) (fun L=>?_)
 unfold code_Sets.f at h
 refine TC.seq ?_
 refine TC.region ?_
 refine TL.cons (TL.box (cs:=[VI a0.f0,VI a0.f1,VI a0.f2,VI a0.f3,VI a0.f4,.slice A1 a0.f5.length c2]) rfl rfl rfl rfl (fun b5=>?_))
 refine TV rfl rfl rfl (Val.assign rfl) ?_
 refine TL.nil ?_
 refine TQ.then_ ?_
 refine TC.seq ?_
 refine TC.seq ?_
 refine TC.region ?_
 refine TV rfl rfl rfl (Val.fieldAddrB Try.underlying37 rfl fsz3 rfl rfl rfl) ?_
 refine TV rfl rfl rfl (Val.loadB 0 agg3 rfl rfl rfl) ?_
 obtain ⟨y6,hy7,h⟩:=bind_no h
 refine TL.cons (TL.callV (Lin:=[]) (args:=[VI a0.f0]) rfl rfl rfl hbd29 rfl rfl (code_shapeOf.calls (a0:=a0.f0) hy7) rfl ?_)
 rintro _ _ _ _ ⟨rfl,rfl,rfl⟩
 refine TV rfl rfl rfl (Val.move rfl) ?_
 refine TV rfl rfl rfl (Val.extract rfl rfl) ?_
 refine TV rfl rfl rfl (Val.extract rfl rfl) ?_
 refine TL.cons (TL.alloc (cs:=[.bool false,.bool false,.bool false,.bool false]) rfl rfl zr66 rfl (fun b8=>?_))
 refine TL.cons (TL.store 0 (ds:=[.bool y6.1.f0,.bool y6.1.f1,.bool y6.1.f2,.bool y6.1.f3]) (cs':=[.bool y6.1.f0,.bool y6.1.f1,.bool y6.1.f2,.bool y6.1.f3]) (L':=(Blk b8 [.bool y6.1.f0,.bool y6.1.f1,.bool y6.1.f2,.bool y6.1.f3] 66::Blk b5 [VI a0.f0,VI a0.f1,VI a0.f2,VI a0.f3,VI a0.f4,.slice A1 a0.f5.length c2] 37::L)) rfl fsz66 rfl rfl rfl rfl rfl (Nat.le_of_ble_eq_true rfl) rfl rfl ?_)
 refine TV rfl rfl rfl (Val.assign rfl) ?_
 refine TL.nil ?_
 refine TQ.then_ ?_
 refine TC.seq ?_
 refine TC.region ?_
 refine TV rfl rfl rfl (Val.fieldAddrB Try.underlying66 rfl fsz4 rfl rfl rfl) ?_
 refine TV rfl rfl rfl (Val.loadB 0 agg4 rfl rfl rfl) ?_
 refine TV rfl rfl rfl (Val.not_ rfl) ?_
 refine TL.nil ?_
 refine TQ.then_ ?_
 refine TC.cond_b rfl h (fun hc10 h=>?_) (fun hc10 h=>?_)
 ·
  refine TC.seq ?_
  refine TC.region ?_
  refine TV rfl rfl rfl (Val.assign rfl) ?_
  refine TL.nil ?_
  refine TQ.then_ ?_
  refine TC.ret ?_
  refine TQ.thenR ?_
  obtain rfl:=Option.some.inj h
  exact TQ.fin (.inl rfl) rfl Try.results36 (.tmp rfl .nil) rfl (FRel.mk (Ls:=[]) [] 2 (Gd.le.refl _) rfl rfl rfl ⟨rfl,rfl,rfl⟩)
 ·
  refine TC.skip ?_
  refine TQ.then_ ?_
  refine TC.seq ?_
  refine TC.region ?_
  refine TV rfl rfl rfl (Val.fieldAddrB Try.underlying37 rfl fsz3 rfl rfl rfl) ?_
  refine TV rfl rfl rfl (Val.loadB 1 agg3 rfl rfl rfl) ?_
  refine TV rfl rfl rfl (Val.assign rfl) ?_
  refine TL.nil ?_
  refine TQ.then_ ?_
  refine TC.ret ?_
  obtain rfl:=Option.some.inj h
  exact TQ.fin (.inl rfl) rfl Try.results36 (.tmp rfl .nil) rfl (FRel.mk (Ls:=[]) [] 2 (Gd.le.refl _) rfl rfl rfl ⟨rfl,rfl,rfl⟩)
def forward_known_learn.f (a0_0:MqS) (a1:S37) (a2:(List Int)):Option MqS:=jn (γ:=MqS) (fun (x28:MqS)=>(code_Sets.f a1).bind fun (y30:Int)=>(forward_known_set.f x28 y30).bind fun (y32:MqS)=>(if a1.f0=5 then (if y32.1 < 17592186044416∧wf2 (a1.f2,a1.f4)∧wfi a1.f3 then some (qput y32 (a1.f2,a1.f4) a1.f3) else none) else jn (γ:=MqS) (fun (x80:Bool)=>(if x80=true then (if y32.1 < 17592186044416∧wf2 (a1.f2,a1.f4)∧wfi a1.f1 then some (qput y32 (a1.f2,a1.f4) a1.f1) else none) else some y32)) (fun (j81:(Bool → Option MqS))=>(if a1.f0=4 then j81 (!decide (a1.f1=a1.f2)) else j81 false)))) (fun (j29:(MqS → Option MqS))=>(if a1.f0=7 then j29 (qclr a0_0) else (if a1.f0=5 then (forward_known_stored.f a0_0 a1 a2).bind fun (y94:MqS)=>j29 y94 else j29 a0_0)))
def forward_known_learn.post (G:Gd) (b1:Nat) (A2:Option Addr) (c3:Nat) (A6:Option Addr) (c7:Nat) (a0_0:MqS) (a1:S37) (a2:(List Int)) (r:MqS) (v:Value) (G':Gd) (Lr:List Ch):Prop:=G=G'∧v=.tuple #[]∧Lr=[Mq Try.prog 59 3 b1 r]
theorem forward_known_learn.calls {G:Gd} {r:MqS} {a0_0:MqS} {a1:S37} {a2:(List Int)} {b1:Nat} {A2:Option Addr} {c3:Nat} {A6:Option Addr} {c7:Nat} (hr4:Rd G kI A2 a1.f5) (hl5:a1.f5.length ≤ c3) (hr8:Rd G kI A6 a2) (hl9:a2.length ≤ c7) (h:forward_known_learn.f a0_0 a1 a2=some r):Fn Try.prog 23 G [Mq Try.prog 59 3 b1 a0_0] [.map (some b1),.agg #[VI a1.f0,VI a1.f1,VI a1.f2,VI a1.f3,VI a1.f4,.slice A2 a1.f5.length c3],.slice A6 a2.length c7] (forward_known_learn.post G b1 A2 c3 A6 c7 a0_0 a1 a2 r):=by
 refine Fn.intro (e:=[(0,.map (some b1)),(1,.agg #[VI a1.f0,VI a1.f1,VI a1.f2,VI a1.f3,VI a1.f4,.slice A2 a1.f5.length c3]),(2,.slice A6 a2.length c7)]) 50 Try.func23 rfl Try.ntmps23 rfl rfl (Nat.le_of_ble_eq_true rfl) (fun L=>?_)
 unfold forward_known_learn.f at h
 refine TC.seq ?_
 refine TC.region ?_
 refine TL.cons (TL.box (cs:=[VI a1.f0,VI a1.f1,VI a1.f2,VI a1.f3,VI a1.f4,.slice A2 a1.f5.length c3]) rfl rfl rfl rfl (fun b10=>?_))
 refine TL.nil ?_
 refine TQ.then_ ?_
 refine TC.seq ?_
 refine TC.seq ?_
 refine TC.region ?_
 refine TV rfl rfl rfl (Val.fieldAddrB Try.underlying37 rfl fsz3 rfl rfl rfl) ?_
 refine TV rfl rfl rfl (Val.loadB 0 agg3 rfl rfl rfl) ?_
 refine TL.nil ?_
 refine TQ.then_ ?_
 refine TC.block ?_
 refine TC.seq ?_
 refine TC.region ?_
 refine TV rfl rfl rfl (Val.cmp rfl rfl run_eql) ?_
 refine TV rfl rfl rfl (Val.assign rfl) ?_
 refine TL.nil ?_
 refine TQ.then_ ?_
 obtain ⟨j29,hj29,h⟩:=jn_no h
 refine TC.tail (fun a W=>∃ (x28:MqS),j29 x28=some r∧Fr 50 a [(0,.map (some b1)),(4,VP b10 0)]∧Own G (Mq Try.prog 59 3 b1 x28::Blk b10 [VI a1.f0,VI a1.f1,VI a1.f2,VI a1.f3,VI a1.f4,.slice A2 a1.f5.length c3] 37::L) W) ?_ ?_
 ·
  rintro a W ⟨x28,h,hF,hO⟩
  rw [hj29] at h
  refine TQ.use ?_ hF hO
  clear hF hO
  refine TQ.inB ?_
  refine TQ.then_ ?_
  refine TC.seq ?_
  refine TC.region ?_
  refine TV rfl rfl rfl (Val.move rfl) ?_
  refine TV rfl rfl rfl (Val.loadsB 1 (cs:=[VI a1.f0,VI a1.f1,VI a1.f2,VI a1.f3,VI a1.f4,.slice A2 a1.f5.length c3]) agg37 fsz37 rfl rfl rfl rfl) ?_
  obtain ⟨y30,hy31,h⟩:=bind_no h
  refine TL.cons (TL.callV (Lin:=[]) (args:=[.agg #[VI a1.f0,VI a1.f1,VI a1.f2,VI a1.f3,VI a1.f4,.slice A2 a1.f5.length c3]]) rfl rfl rfl hbd36 rfl rfl (code_Sets.calls (a0:=a1) hr4 hl5 hy31) rfl ?_)
  rintro _ _ _ _ ⟨rfl,rfl,rfl⟩
  obtain ⟨y32,hy33,h⟩:=bind_no h
  refine TL.cons (TL.callV (Lin:=[Mq Try.prog 59 3 b1 x28]) (args:=[.map (some b1),VI y30]) rfl rfl rfl hbd35 rfl rfl (forward_known_set.calls (a0_0:=x28) (a1:=y30) hy33) rfl ?_)
  rintro _ _ _ _ ⟨rfl,rfl,rfl⟩
  refine TL.nil ?_
  refine TQ.then_ ?_
  refine TC.seq ?_
  refine TC.region ?_
  refine TV rfl rfl rfl (Val.fieldAddrB Try.underlying37 rfl fsz3 rfl rfl rfl) ?_
  refine TV rfl rfl rfl (Val.loadB 1 agg3 rfl rfl rfl) ?_
  refine TV rfl rfl rfl (Val.fieldAddrB Try.underlying37 rfl fsz3 rfl rfl rfl) ?_
  refine TV rfl rfl rfl (Val.loadB 1 agg3 rfl rfl rfl) ?_
  refine TV rfl rfl rfl (Val.build (cs:=[VI a1.f2,VI a1.f4]) (is:=[0,1]) (xs:=[.tmp 23,.tmp 25]) Try.underlying59 zr59 bld59 rfl rfl rfl rfl) ?_
  refine TL.cons (TL.alloc (cs:=[VI 0,VI 0]) rfl rfl zr59 rfl (fun b34=>?_))
  refine TL.cons (TL.store 0 (ds:=[VI a1.f2,VI a1.f4]) (cs':=[VI a1.f2,VI a1.f4]) (L':=(Blk b34 [VI a1.f2,VI a1.f4] 59::Mq Try.prog 59 3 b1 y32::Blk b10 [VI a1.f0,VI a1.f1,VI a1.f2,VI a1.f3,VI a1.f4,.slice A2 a1.f5.length c3] 37::L)) rfl fsz59 rfl rfl rfl rfl rfl (Nat.le_of_ble_eq_true rfl) rfl rfl ?_)
  refine TL.nil ?_
  refine TQ.then_ ?_
  refine TC.block ?_
  refine TC.seq ?_
  refine TC.region ?_
  refine TV rfl rfl rfl (Val.fieldAddrB Try.underlying37 rfl fsz3 rfl rfl rfl) ?_
  refine TV rfl rfl rfl (Val.loadB 2 agg3 rfl rfl rfl) ?_
  refine TV rfl rfl rfl (Val.cmp rfl rfl run_eql) ?_
  refine TV rfl rfl rfl (Val.assign rfl) ?_
  refine TL.nil ?_
  refine TQ.then_ ?_
  refine TC.cond_p rfl h (fun hc75 h=>?_) (fun hc75 h=>?_)
  ·
   refine TC.region ?_
   refine TV rfl rfl rfl (Val.move rfl) ?_
   refine TV rfl rfl rfl (Val.loadsB 0 (cs:=[VI a1.f2,VI a1.f4]) agg59 fsz59 rfl rfl rfl rfl) ?_
   refine TV rfl rfl rfl (Val.fieldAddrB Try.underlying37 rfl fsz3 rfl rfl rfl) ?_
   refine TV rfl rfl rfl (Val.loadB 2 agg3 rfl rfl rfl) ?_
   obtain ⟨hz76,h⟩:=ite_no h
   refine TL.cons (TL.mapUpdateQ (a:=(a1.f2,a1.f4)) 1 (L':=(Blk b34 [VI a1.f2,VI a1.f4] 59::Mq Try.prog 59 3 b1 (qput y32 (a1.f2,a1.f4) a1.f3)::Blk b10 [VI a1.f0,VI a1.f1,VI a1.f2,VI a1.f3,VI a1.f4,.slice A2 a1.f5.length c3] 37::L)) rfl Try.underlying55 kq106 Try.underlying3 rfl rfl rfl rfl rfl hz76 ?_)
   refine TL.nil ?_
   refine TQ.inB ?_
   obtain rfl:=Option.some.inj h
   exact TQ.fin (.inr rfl) rfl Try.results23 .nil rfl (FRel.mk (Ls:=[Mq Try.prog 59 3 b1 (qput y32 (a1.f2,a1.f4) a1.f3)]) [1] 3 (Gd.le.refl _) rfl rfl rfl ⟨rfl,rfl,rfl⟩)
  ·
   refine TC.seq ?_
   obtain ⟨j81,hj81,h⟩:=jn_no h
   refine TC.tail (fun a W=>∃ (x80:Bool),j81 x80=some r∧Fr 50 a [(0,.map (some b1)),(4,VP b10 0),(6,VP b34 0),(35,.bool x80)]∧Own G (Mq Try.prog 59 3 b1 y32::Blk b10 [VI a1.f0,VI a1.f1,VI a1.f2,VI a1.f3,VI a1.f4,.slice A2 a1.f5.length c3] 37::Blk b34 [VI a1.f2,VI a1.f4] 59::L) W) ?_ ?_
   ·
    rintro a W ⟨x80,h,hF,hO⟩
    rw [hj81] at h
    refine TQ.use ?_ hF hO
    clear hF hO
    refine TQ.then_ ?_
    refine TC.cond_b rfl h (fun hc84 h=>?_) (fun hc84 h=>?_)
    ·
     refine TC.region ?_
     refine TV rfl rfl rfl (Val.move rfl) ?_
     refine TV rfl rfl rfl (Val.loadsB 2 (cs:=[VI a1.f2,VI a1.f4]) agg59 fsz59 rfl rfl rfl rfl) ?_
     refine TV rfl rfl rfl (Val.fieldAddrB Try.underlying37 rfl fsz3 rfl rfl rfl) ?_
     refine TV rfl rfl rfl (Val.loadB 1 agg3 rfl rfl rfl) ?_
     obtain ⟨hz85,h⟩:=ite_no h
     refine TL.cons (TL.mapUpdateQ (a:=(a1.f2,a1.f4)) 0 (L':=(Mq Try.prog 59 3 b1 (qput y32 (a1.f2,a1.f4) a1.f1)::Blk b10 [VI a1.f0,VI a1.f1,VI a1.f2,VI a1.f3,VI a1.f4,.slice A2 a1.f5.length c3] 37::Blk b34 [VI a1.f2,VI a1.f4] 59::L)) rfl Try.underlying55 kq106 Try.underlying3 rfl rfl rfl rfl rfl hz85 ?_)
     refine TL.nil ?_
     refine TQ.inB ?_
     obtain rfl:=Option.some.inj h
     exact TQ.fin (.inr rfl) rfl Try.results23 .nil rfl (FRel.mk (Ls:=[Mq Try.prog 59 3 b1 (qput y32 (a1.f2,a1.f4) a1.f1)]) [0] 3 (Gd.le.refl _) rfl rfl rfl ⟨rfl,rfl,rfl⟩)
    ·
     refine TC.skip ?_
     refine TQ.inB ?_
     obtain rfl:=Option.some.inj h
     exact TQ.fin (.inr rfl) rfl Try.results23 .nil rfl (FRel.mk (Ls:=[Mq Try.prog 59 3 b1 y32]) [0] 3 (Gd.le.refl _) rfl rfl rfl ⟨rfl,rfl,rfl⟩)
   ·
    refine TC.region ?_
    refine TV rfl rfl rfl (Val.fieldAddrB Try.underlying37 rfl fsz3 rfl rfl rfl) ?_
    refine TV rfl rfl rfl (Val.loadB 2 agg3 rfl rfl rfl) ?_
    refine TV rfl rfl rfl (Val.cmp rfl rfl run_eql) ?_
    refine TV rfl rfl rfl (Val.move rfl) ?_
    refine TK.split (p:=a1.f0=4) h (fun hg86 h=>?_) (fun hg86 h=>?_)
    ·
     have hk87:decide (a1.f0=4)=true:=decide_eq_true hg86
     refine TV (Wt.yes rfl rfl rfl hk87) rfl rfl (Val.fieldAddrB Try.underlying37 rfl fsz3 rfl rfl rfl) ?_
     refine TV (Wt.yes rfl rfl rfl hk87) rfl rfl (Val.loadB 2 agg3 rfl rfl rfl) ?_
     refine TV (Wt.yes rfl rfl rfl hk87) rfl rfl (Val.fieldAddrB Try.underlying37 rfl fsz3 rfl rfl rfl) ?_
     refine TV (Wt.yes rfl rfl rfl hk87) rfl rfl (Val.loadB 2 agg3 rfl rfl rfl) ?_
     refine TV (Wt.yes rfl rfl rfl hk87) rfl rfl (Val.cmp rfl rfl run_neq) ?_
     refine TV rfl rfl rfl (Val.pickY rfl hk87 rfl) ?_
     refine TV rfl rfl rfl (Val.assign rfl) ?_
     refine TL.nil ?_
     exact fun a W hF hO=>⟨(!decide (a1.f1=a1.f2)),h,hF.sub ⟨rfl,rfl,rfl,rfl,trivial⟩,hO.selT (Ls:=[Mq Try.prog 59 3 b1 y32,Blk b10 [VI a1.f0,VI a1.f1,VI a1.f2,VI a1.f3,VI a1.f4,.slice A2 a1.f5.length c3] 37,Blk b34 [VI a1.f2,VI a1.f4] 59]) [1,2,0] 3 rfl rfl rfl⟩
    ·
     have hk88:decide (a1.f0=4)=false:=decide_eq_false hg86
     refine TL.cons (TL.not (Wt.no rfl rfl rfl hk88) rfl ?_)
     refine TL.cons (TL.not (Wt.no rfl rfl rfl hk88) rfl ?_)
     refine TL.cons (TL.not (Wt.no rfl rfl rfl hk88) rfl ?_)
     refine TL.cons (TL.not (Wt.no rfl rfl rfl hk88) rfl ?_)
     refine TL.cons (TL.not (Wt.no rfl rfl rfl hk88) rfl ?_)
     refine TV rfl rfl rfl (Val.pickN rfl hk88 rfl) ?_
     refine TV rfl rfl rfl (Val.assign rfl) ?_
     refine TL.nil ?_
     exact fun a W hF hO=>⟨false,h,hF.sub ⟨rfl,rfl,rfl,rfl,trivial⟩,hO.selT (Ls:=[Mq Try.prog 59 3 b1 y32,Blk b10 [VI a1.f0,VI a1.f1,VI a1.f2,VI a1.f3,VI a1.f4,.slice A2 a1.f5.length c3] 37,Blk b34 [VI a1.f2,VI a1.f4] 59]) [1,2,0] 3 rfl rfl rfl⟩
 ·
  refine TC.cond_p rfl h (fun hc89 h=>?_) (fun hc89 h=>?_)
  ·
   refine TC.region ?_
   refine TV rfl rfl rfl (Val.move rfl) ?_
   refine TL.cons (TL.mapClearQ 1 (L':=(Blk b10 [VI a1.f0,VI a1.f1,VI a1.f2,VI a1.f3,VI a1.f4,.slice A2 a1.f5.length c3] 37::Mq Try.prog 59 3 b1 (qclr a0_0)::L)) rfl Try.underlying55 rfl rfl rfl ?_)
   refine TL.nil ?_
   exact fun a W hF hO=>⟨(qclr a0_0),h,hF.sub ⟨rfl,rfl,trivial⟩,hO.selT (Ls:=[Mq Try.prog 59 3 b1 (qclr a0_0),Blk b10 [VI a1.f0,VI a1.f1,VI a1.f2,VI a1.f3,VI a1.f4,.slice A2 a1.f5.length c3] 37]) [1,0] 2 rfl rfl rfl⟩
  ·
   refine TC.seq ?_
   refine TC.region ?_
   refine TV rfl rfl rfl (Val.cmp rfl rfl run_eql) ?_
   refine TV rfl rfl rfl (Val.assign rfl) ?_
   refine TL.nil ?_
   refine TQ.then_ ?_
   refine TC.cond_p rfl h (fun hc93 h=>?_) (fun hc93 h=>?_)
   ·
    refine TC.region ?_
    refine TV rfl rfl rfl (Val.move rfl) ?_
    refine TV rfl rfl rfl (Val.loadsB 0 (cs:=[VI a1.f0,VI a1.f1,VI a1.f2,VI a1.f3,VI a1.f4,.slice A2 a1.f5.length c3]) agg37 fsz37 rfl rfl rfl rfl) ?_
    refine TV rfl rfl rfl (Val.move rfl) ?_
    refine TK.sel (Ls:=[Mq Try.prog 59 3 b1 a0_0,Blk b10 [VI a1.f0,VI a1.f1,VI a1.f2,VI a1.f3,VI a1.f4,.slice A2 a1.f5.length c3] 37]) [1,0] 2 rfl rfl rfl ?_
    obtain ⟨y94,hy95,h⟩:=bind_no h
    refine TL.cons (TL.callV (Lin:=[Mq Try.prog 59 3 b1 a0_0]) (args:=[.map (some b1),.agg #[VI a1.f0,VI a1.f1,VI a1.f2,VI a1.f3,VI a1.f4,.slice A2 a1.f5.length c3],.slice A6 a2.length c7]) rfl rfl rfl hbd34 rfl rfl (forward_known_stored.calls (a0_0:=a0_0) (a1:=a1) (a2:=a2) hr4 hl5 hr8 hl9 hy95) rfl ?_)
    rintro _ _ _ _ ⟨rfl,rfl,rfl⟩
    refine TL.nil ?_
    exact fun a W hF hO=>⟨y94,h,hF.sub ⟨rfl,rfl,trivial⟩,hO.selT (Ls:=[Mq Try.prog 59 3 b1 y94,Blk b10 [VI a1.f0,VI a1.f1,VI a1.f2,VI a1.f3,VI a1.f4,.slice A2 a1.f5.length c3] 37]) [0,1] 2 rfl rfl rfl⟩
   ·
    refine TC.skip ?_
    exact fun a W hF hO=>⟨a0_0,h,hF.sub ⟨rfl,rfl,trivial⟩,hO.selT (Ls:=[Mq Try.prog 59 3 b1 a0_0,Blk b10 [VI a1.f0,VI a1.f1,VI a1.f2,VI a1.f3,VI a1.f4,.slice A2 a1.f5.length c3] 37]) [1,0] 2 rfl rfl rfl⟩
end Go.Proofs.Ytpngojifibakiaa.Sy
