/- An argument read as data, of what a machine bears, opened as the walk's own kinds: integers, bools, strings, structs, slices of these, to any depth. -/
import Derived.Deep.Slices
import Derived.Carry
import Derived.SizedLaws
import Derived.Test.YtmacdhkfgoahcaaWMore
set_option linter.unusedVariables false
namespace Go.Proofs.Ytmacdhkfgoahcaa.OpenS
open Go Go.RowKit Go.Proofs.YtmacdhkfgoahcaaW.PrintWords Go.Proofs.YtmacdhkfgoahcaaW.PrintLast Go.Proofs.YtmacdhkfgoahcaaW.PrintMore
theorem weightsAll_mem {H : Type} {P : Program} {e : TypeId} : ∀ (l : List (DataW H)) (d : DataW H), d ∈ l → ∀ n ∈ d.weights P e, n ∈ DataW.weightsAll P e l
  | x :: r, d, hd, n, hn => by
    simp only [DataW.weightsAll, List.mem_append]
    rcases List.mem_cons.1 hd with rfl | hd
    · exact .inl hn
    · exact .inr (weightsAll_mem r d hd n hn)
/-- What reads as data of this type is an element of this kind. -/
def Opens {α : Type} (P : Program) (t : TypeId) (d : Kd α) (W : α → Prop) : Prop :=
  P.cellsOf t = d.sz ∧ ∀ (H : Type) (enc : TypeId × Value → H) (w : World) (base : Nat) (held : Bool) (fuel : Nat) (cs : List Value) (x : DataW H × List MemPlace),
    DataW.trod enc P w base (fun _ => true) held fuel t cs = some x → (∀ n ∈ x.1.weights P t, n ≤ reachBytes) → ∃ y, d.K w y cs ∧ W y
variable {P : Program} {t e : TypeId}
theorem Opens.int {k : IntKind} (ht : P.underlying t = some (.int k)) (hc : P.cellsOf t = 1) : Opens P t (Kd.int k) (fun n => (Lit.int k n).wf = true) :=
  ⟨hc, fun H enc w base held fuel cs x h hz => by
    obtain ⟨n, rfl, _, hw⟩ := DataW.trod_int ht h
    exact ⟨n, rfl, hw⟩⟩
theorem Opens.bool (ht : P.underlying t = some .bool) (hc : P.cellsOf t = 1) : Opens P t Kd.bool (fun _ => True) :=
  ⟨hc, fun H enc w base held fuel cs x h hz => by
    obtain ⟨n, rfl, _⟩ := DataW.trod_bool ht h
    exact ⟨n, rfl, trivial⟩⟩
theorem Opens.string (ht : P.underlying t = some .string) (hc : P.cellsOf t = 1) : Opens P t Kd.string (fun s => s.size ≤ maxLen) :=
  ⟨hc, fun H enc w base held fuel cs x h hz => by
    obtain ⟨s, rfl, _, hw⟩ := DataW.trod_string ht h
    exact ⟨s, rfl, hw⟩⟩
theorem Opens.slice {α : Type} {d : Kd α} {W : α → Prop} (ht : P.underlying t = some (.slice e)) (hc : P.cellsOf t = 1) (he : Opens P e d W) :
    Opens P t (Kd.slice e d) (fun l => l.length ≤ maxLen ∧ l.length * P.bytesOf e ≤ reachBytes ∧ ∀ y ∈ l, W y) :=
  ⟨hc, fun H enc w base held fuel cs x h hz => by
    rcases Go.Deep.open_slice ht h with ⟨rfl, _⟩ | ⟨a, len, cap, m, n, D, Pl, rfl, hb, hl, hm, hme, rfl, hall⟩
    · refine ⟨[], ⟨none, 0, rfl, Nat.le_refl _, rfl, Nat.zero_le _, fun h => absurd h (by simp)⟩, by simp, by simp⟩
    · simp only [if_true] at hme
      subst hme
      have h1 : ∀ i : Fin len, ∃ y : α, ∃ cs', w.cells? base (a.add (i.1 * P.cellsOf e)) (P.cellsOf e) = some cs' ∧ d.K w y cs' ∧ W y := by
        intro i
        obtain ⟨cs', hcs, htr⟩ := hall i.1 (by have := i.2; omega)
        obtain ⟨y, hy, hW⟩ := he.2 H enc w base held n cs' _ htr (fun q hq => hz q (by
          simp only [DataW.weights, ht]
          refine List.mem_cons_of_mem _ (List.mem_append_left _ (weightsAll_mem _ (D i.1) ?_ q hq))
          exact List.mem_map.2 ⟨i.1, List.mem_range.2 i.2, rfl⟩))
        exact ⟨y, cs', hcs, hy, hW⟩
      obtain ⟨Y, hY⟩ := Classical.axiomOfChoice h1
      have hlen : (List.ofFn Y).length = len := by simp
      have hmx : maxLen = 9223372036854775807 := by decide
      refine ⟨List.ofFn Y, ⟨some a, _, by rw [hlen], by rw [hlen]; exact hl, rfl, by rw [hlen]; omega, fun _ => ⟨a, rfl, ?_⟩⟩, by rw [hlen]; omega, ?_, ?_⟩
      · intro j p hj
        obtain ⟨hjl, rfl⟩ := List.getElem?_eq_some_iff.1 hj
        rw [hlen] at hjl
        obtain ⟨cs', hcs, hK, _⟩ := hY ⟨j, hjl⟩
        obtain ⟨_, hln, hcell⟩ := World.cells?_some hcs
        refine ⟨cs', d.K_len hK, by rw [List.getElem_ofFn]; exact hK, ?_⟩
        intro i u hu
        have hi : i < cs'.length := (List.getElem?_eq_some_iff.1 hu).1
        rw [← he.1]
        have := hcell i (by omega)
        rw [hu, Addr.add_add] at this
        exact this
      · have h9 := hz ((len + (m - len)) * P.bytesOf e) (by simp [DataW.weights, ht])
        rw [hlen]
        exact Nat.le_trans (Nat.mul_le_mul_right _ (by omega)) h9
      · intro y hy
        obtain ⟨i, rfl⟩ := List.mem_ofFn.1 hy
        obtain ⟨_, _, _, hW⟩ := hY i
        exact hW⟩
/-- The fields of a struct, from one on. -/
def OpensF {α : Type} (P : Program) (fs : List Field) (off : Nat) (d : Kd α) (W : α → Prop) : Prop :=
  (∀ f ∈ fs, off ≤ f.offset) ∧ ∀ (H : Type) (enc : TypeId × Value → H) (w : World) (base : Nat) (held : Bool) (fuel : Nat) (cs : List Value), cs.length = d.sz →
    (∀ f ∈ fs, ∃ x, DataW.trod enc P w base (fun _ => true) held fuel f.type ((cs.drop (f.offset - off)).take (P.cellsOf f.type)) = some x ∧ ∀ n ∈ x.1.weights P f.type, n ≤ reachBytes) → ∃ y, d.K w y cs ∧ W y
theorem OpensF.one {α : Type} {d : Kd α} {W : α → Prop} {f : Field} (h : Opens P f.type d W) : OpensF P [f] f.offset d W :=
  ⟨by simp, fun H enc w base held fuel cs hcs hx => by
    obtain ⟨x, hx, hz⟩ := hx f (List.mem_singleton_self _)
    rw [Nat.sub_self, List.drop_zero, h.1, List.take_of_length_le (by omega)] at hx
    exact h.2 H enc w base held fuel cs x hx hz⟩
theorem OpensF.cons {α β : Type} {d : Kd α} {W : α → Prop} {d' : Kd β} {W' : β → Prop} {f : Field} {fs : List Field} {off : Nat} (h : Opens P f.type d W) (hoff : off = f.offset + d.sz) (h' : OpensF P fs off d' W') :
    OpensF P (f :: fs) f.offset (Kd.pair d d') (fun x => W x.1 ∧ W' x.2) :=
  ⟨fun g hg => by
    rcases List.mem_cons.1 hg with rfl | hg
    · exact Nat.le_refl _
    · have := h'.1 g hg; omega,
   fun H enc w base held fuel cs hcs hx => by
    have hcs' : cs.length = d.sz + d'.sz := hcs
    obtain ⟨x, hx0, hz0⟩ := hx f List.mem_cons_self
    rw [Nat.sub_self, List.drop_zero, h.1] at hx0
    obtain ⟨y, hy, hW⟩ := h.2 H enc w base held fuel _ x hx0 hz0
    obtain ⟨y', hy', hW'⟩ := h'.2 H enc w base held fuel (cs.drop d.sz) (by rw [List.length_drop]; omega) (fun g hg => by
      obtain ⟨x, hx1, hz1⟩ := hx g (List.mem_cons_of_mem _ hg)
      have := h'.1 g hg
      refine ⟨x, ?_, hz1⟩
      rw [List.drop_drop, show d.sz + (g.offset - off) = g.offset - f.offset from by omega]
      exact hx1)
    exact ⟨(y, y'), ⟨cs.take d.sz, cs.drop d.sz, (List.take_append_drop _ _).symm, hy, hy'⟩, hW, hW'⟩⟩
theorem Opens.struct {α β : Type} {d : Kd α} {W : α → Prop} {fs : Array Field} (ht : P.underlying t = some (.struct fs)) (hc : P.cellsOf t = d.sz) (h : OpensF P fs.toList 0 d W) (g : β → α) (g' : α → β) (hg : ∀ a, g (g' a) = a) :
    Opens P t (Kd.iso d g) (fun b => W (g b)) :=
  ⟨hc, fun H enc w base held fuel cs x hx hz => by
    obtain ⟨xs, n, _, rfl, hln, hxl, hall⟩ := DataW.trod_struct ht hx
    obtain ⟨y, hy, hW⟩ := h.2 H enc w base held n cs (by rw [hln, hc]) (fun f hf => by
      obtain ⟨i, hi⟩ := List.getElem?_of_mem hf
      have hi' : fs[i]? = some f := by simpa using hi
      have := hall i f hi'
      have hil : i < xs.length := by rw [hxl]; exact (Array.getElem?_eq_some_iff.1 hi').1
      rw [List.getElem?_eq_getElem hil] at this
      refine ⟨_, by rw [Nat.sub_zero]; exact this, fun q hq => hz q ?_⟩
      simp only [DataW.weights, ht]
      exact DataW.weights_mem_each (j := i) (t := f.type) (d := xs[i].1) (by simp [hi']) (by simp [List.getElem?_eq_getElem hil]) q hq)
    exact ⟨g' y, by show d.K w (g (g' y)) cs; rw [hg]; exact hy, by show W (g (g' y)); rw [hg]; exact hW⟩⟩
theorem Opens.mono {α : Type} {d : Kd α} {W W' : α → Prop} (h : Opens P t d W) (hw : ∀ y, W y → W' y) : Opens P t d W' :=
  ⟨h.1, fun H enc w base held fuel cs x hx hz => by
    obtain ⟨y, hy, hW⟩ := h.2 H enc w base held fuel cs x hx hz
    exact ⟨y, hy, hw y hW⟩⟩
/-- A slice that is an argument. -/
theorem Opens.arg {α : Type} {d : Kd α} {W : α → Prop} (ht : P.underlying t = some (.slice e)) (hc : P.cellsOf t = 1) (he : Opens P e d W) {H : Type} {enc : TypeId × Value → H} {w : World} {base : Nat} {held : Bool} {a : Option Addr} {len cap : Nat} {x : DataW H} {ps : List MemPlace}
    (h : DataW.Trod enc P w base (fun _ => true) held t (.slice a len cap) x ps) (hz : ∀ n ∈ x.weights P t, n ≤ reachBytes) : ∃ l : List α, l.length = len ∧ len ≤ cap ∧ Kd.C d w a len l ∧ len ≤ maxLen ∧ l.length * P.bytesOf e ≤ reachBytes ∧ ∀ y ∈ l, W y := by
  obtain ⟨fuel, hf⟩ := h
  obtain ⟨l, ⟨A, c, hcs, hle, hC⟩, hW1, hW2, hW3⟩ := (Opens.slice ht hc he).2 H enc w base held fuel _ _ hf hz
  simp [Value.cells] at hcs
  obtain ⟨rfl, h2, rfl⟩ := hcs
  exact ⟨l, h2.symm, by omega, by rw [h2]; exact hC, by omega, hW2, hW3⟩
end Go.Proofs.Ytmacdhkfgoahcaa.OpenS
