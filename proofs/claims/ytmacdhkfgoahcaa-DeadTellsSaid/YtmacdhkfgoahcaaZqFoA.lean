/- Of the text FoA, what this law uses. -/
import Derived.Maps.Own
import Derived.Maps.OwnOps
import Derived.Maps.OwnSet
import Derived.Maps.Views
import Derived.Deep.QuietTactic
import Derived.BigQuiet
import Derived.StillTailTactics
import Derived.Test.YtmacdhkfgoahcaaShelf
import Derived.Test.YtmacdhkfgoahcaaZqQx4
import Derived.Test.YtmacdhkfgoahcaaZqQx5
/- Maps of ints that the call made, as functions; what stores, deletions and strikings leave. -/
set_option linter.unusedVariables false
set_option linter.unusedSimpArgs false
namespace Go.Proofs.Ytmacdhkfgoahcaa.Fo
open Go Go.RowKit Go.Maps Go.Proofs.YtmacdhkfgoahcaaW.PrintWords Go.Proofs.YtmacdhkfgoahcaaW.PrintLast Go.Proofs.YtmacdhkfgoahcaaW.PrintMore
def wf (a : Int) : Prop := (Lit.int .i64 a).wf = true
/-- A map, as a function. -/
abbrev Fn := Int → Option Int
def lit? : Option Int → DataW Unit → DataW Unit
  | some n, _ => .lit (.int .i64 n)
  | none, z => z
/-- The datum reads as this function, at each int. -/
def Tells (D : DataW Unit) (m : Fn) : Prop := ∀ a, wf a → ∀ z, D.atKey (.int .i64 a) z = lit? (m a) z
structure MapI (w : World) (b cnt : Nat) (m : Fn) : Prop where
  ex : ∃ D : DataW Unit, w.ownsMap Try.prog 3 (plainElem Try.prog 3) b cnt D ∧ Tells D m
  ok : ∀ a n, m a = some n → wf n
theorem law3 : Keyed Try.prog 3 := int_keyed Try.underlying3
theorem Tells.has {D : DataW Unit} {m : Fn} (h : Tells D m) (a : Int) (ha : wf a) : Maps.has D (.int .i64 a) = (m a).isSome := by
  cases e : m a with
  | none => exact has_false_of_atKey (fun z => by rw [h a ha z, e]; rfl)
  | some n => exact has_true_of_atKey (y := .lit (.int .i64 n)) (fun z => by rw [h a ha z, e]; rfl)
def put (m : Fn) (a v : Int) : Fn := fun x => if x = a then some v else m x
def del (m : Fn) (a : Int) : Fn := fun x => if x = a then none else m x
/-- Without what holds d. -/
def strike (m : Fn) (d : Int) : Fn := fun x => if m x = some d then none else m x
theorem Tells.put {D : DataW Unit} {m : Fn} (h : Tells D m) (hD : IsMap D) (a v : Int) : Tells (D.put (.int .i64 a) (.lit (.int .i64 v))) (put m a v) := fun x hx z => by
  unfold Fo.put
  by_cases e : x = a
  · subst e; rw [if_pos rfl, atKey_put_same hD (by trivial)]; rfl
  · rw [if_neg e, atKey_put_other (fun hh => e (by injection hh))]; exact h x hx z
theorem Tells.del {D : DataW Unit} {m : Fn} (h : Tells D m) (a : Int) : Tells (D.del (.int .i64 a)) (del m a) := fun x hx z => by
  unfold Fo.del
  by_cases e : x = a
  · subst e; rw [if_pos rfl, atKey_del_same]; rfl
  · rw [if_neg e, atKey_del_other (fun hh => e (by injection hh))]; exact h x hx z
/-- Is the element this int? -/
def isD (d : Int) (_ : Lit) : DataW Unit → Bool
  | .lit (.int _ v) => v == d
  | _ => false
theorem MapI.made (w : World) : MapI (w.alloc (.map #[] 0)) w.heap.size 0 (fun _ => none) := ⟨⟨_, World.ownsMap_made w Try.prog 3 _, fun a _ z => rfl⟩, fun _ _ h => by cases h⟩
theorem MapI.mono {w : World} {b cnt cnt' : Nat} {m : Fn} (h : MapI w b cnt m) (hc : cnt ≤ cnt') : MapI w b cnt' m := by
  obtain ⟨D, hD, hT⟩ := h.ex
  exact ⟨⟨D, hD.mono hc, hT⟩, h.ok⟩
theorem MapI.lt {w : World} {b cnt : Nat} {m : Fn} (h : MapI w b cnt m) : b < w.heap.size := by
  obtain ⟨D, hD, _⟩ := h.ex
  exact hD.lt
theorem MapI.keep {w w' : World} {b cnt : Nat} {m : Fn} (h : MapI w b cnt m) (hb : w'.heap[b]? = w.heap[b]?) : MapI w' b cnt m := by
  obtain ⟨D, ⟨es, clock, h1, h2⟩, hT⟩ := h.ex
  exact ⟨⟨D, ⟨es, clock, hb.trans h1, h2⟩, hT⟩, h.ok⟩
theorem MapI.below {w w' : World} {b cnt : Nat} {m : Fn} (h : MapI w b cnt m) (hb : Below w.heap.size w w') : MapI w' b cnt m := h.keep (hb.block b h.lt)
/-- A look-up, at the operation. -/
theorem MapI.look {w : World} {b cnt : Nat} {m : Fn} (h : MapI w b cnt m) (a : Int) (ha : wf a) : ∃ D : DataW Unit, w.ownsMap Try.prog 3 (plainElem Try.prog 3) b cnt D ∧ Maps.has D (.int .i64 a) = (m a).isSome ∧
    ∀ c : Int, D.atKey (.int .i64 a) (.lit (.int .i64 0)) = .lit (.int .i64 c) → c = (m a).getD 0 := by
  obtain ⟨D, hD, hT⟩ := h.ex
  refine ⟨D, hD, hT.has a ha, fun c hc => ?_⟩
  have := hT a ha (.lit (.int .i64 0))
  rw [hc] at this
  cases e : m a with
  | none => rw [e] at this; simp [lit?] at this; simpa using this
  | some n => rw [e] at this; simp [lit?] at this; simpa using this
end Go.Proofs.Ytmacdhkfgoahcaa.Fo

