/- Texts of this work, joined: SyA, SyB, SyC, SyD, SyE, SyF, SyG, SyH, SyI, SyJ, SyRow, SyL, SyM, SyN, SyP, SyQ, SyV, SyLib, SyBld, SyKT, SyOu, SyOpu, SyF76, SyF77, SyF63, SyF66, SyF15, SyF65, SyF45, SyF62, SyF43, SyF64, SyF44, SyF29. -/
import Derived.LoopNIn
import Derived.TacticsInMore
import Derived.RegionCalls
import Derived.WalkKit
import Derived.OpenShut
import Derived.Test.YthlhmoocgjddpaaWsa
import Derived.RangeFuncCalls
import Derived.RangeFuncLeaves
import Derived.Great.BuildSlice
import Derived.OrdersIn
import Derived.OrdersHeld
import Derived.WalkSpells
import Derived.Laws.StructEq
import Derived.RangeFuncNested
import Derived.RangeFuncRecord
import Derived.ChangeKeysEq
import Derived.Laws.CopyRow
import Derived.Laws.IdiomCopy
import Derived.Sort.Grow
import Derived.Test.YthlhmoocgjddpaaShelfS
import Derived.Shelf.Strings.OnBuilder
import Derived.Lib.UnsafeStr
import Derived.Lib.AppendStr
import Derived.Test.YthlhmoocgjddpaaProg
import Derived.Deep.Slices
import Derived.Carry
import Derived.SizedLaws
import Derived.Test.YthlhmoocgjddpaaRows
set_option linter.unusedVariables false
set_option linter.unusedSimpArgs false
namespace Go.Proofs.Ythlhmoocgjddpaa.Sy
open Go Go.RowKit Go.Proofs.YthlhmoocgjddpaaW.PrintWords
/-- What is shared: the blocks S of a world W0, which stay as_ they are; from B on lie the blocks of one's own. -/
structure Gd where
  W0 : World
  S : Nat → Prop
  lt : ∀ k, S k → k < W0.heap.size
  B : Nat
def Gd.ok (G : Gd) (W : World) : Prop := ∀ k, G.S k → W.heap[k]? = G.W0.heap[k]?
theorem Gd.ok.lt {G : Gd} {W : World} (h : G.ok W) {k : Nat} (hk : G.S k) : k < W.heap.size := by
  have h1 := h k hk
  rw [Array.getElem?_eq_getElem (G.lt k hk)] at h1
  exact (Array.getElem?_eq_some_iff.1 h1).1
theorem Gd.self (G : Gd) : G.ok G.W0 := fun _ _ => rfl
structure Gd.le (G G' : Gd) : Prop where
  S : ∀ k, G.S k → G'.S k ∧ G'.W0.heap[k]? = G.W0.heap[k]?
  B : G'.B = G.B
  os : G'.W0.os = G.W0.os
  tape : G'.W0.tape = G.W0.tape
  out : G'.W0.output = G.W0.output
theorem Gd.le.refl (G : Gd) : G.le G := ⟨fun _ h => ⟨h, rfl⟩, rfl, rfl, rfl, rfl⟩
theorem Gd.le.trans {G G1 G2 : Gd} (h : G.le G1) (k : G1.le G2) : G.le G2 :=
  ⟨fun i hi => ⟨(k.S i (h.S i hi).1).1, (k.S i (h.S i hi).1).2.trans (h.S i hi).2⟩, k.B.trans h.B, k.os.trans h.os, k.tape.trans h.tape, k.out.trans h.out⟩
theorem Gd.le.ok {G G' : Gd} (h : G.le G') {W : World} (hw : G'.ok W) : G.ok W := fun k hk => (hw k (h.S k hk).1).trans (h.S k hk).2
/-- A part of memory with what it lies in (from block B on). -/
structure Ch where
  holds : Nat → World → (Nat → Prop) → Prop
  move : ∀ {B} {W W' : World} {F : Nat → Prop}, (∀ k, F k → k < W.heap.size → W'.heap[k]? = W.heap[k]?) → holds B W F → holds B W' F
  wide : ∀ {B W} {F F' : Nat → Prop}, (∀ k, F k → F' k) → holds B W F → holds B W F'
  bound : ∀ {B} {W : World} {F : Nat → Prop}, holds B W F → holds B W (fun k => F k ∧ B ≤ k ∧ k < W.heap.size)
/-- A block of cells. -/
def Blk (g : Nat) (cs : List Value) (T : Nat) : Ch where
  holds B W F := F g ∧ B ≤ g ∧ W.heap[g]? = some (.cells cs.toArray T (0, 0))
  move hm k := ⟨k.1, k.2.1, (hm g k.1 (blk_lt k.2.2)).trans k.2.2⟩
  wide h k := ⟨h g k.1, k.2⟩
  bound k := ⟨⟨k.1, k.2.1, blk_lt k.2.2⟩, k.2⟩
/-- A row of elements of kind d. -/
def Row {α : Type} (d : Kd α) (e : Nat) (v : Value) (xs : List α) : Ch where
  holds B W F := d.R e W B F v xs
  move hm k := Kd.R_step k (fun i hi hlt => hm i hi hlt)
  wide h k := Kd.R_mono k h
  bound k := Kd.R_mono (Kd.R_bound k) (fun i hi => ⟨hi.1, hi.2.1, hi.2.2.1⟩)
/-- The cells of one value of kind d. -/
def El {α : Type} (d : Kd α) (x : α) (cs : List Value) : Ch where
  holds B W F := d.M W B F x cs
  move hm k := Kd.M_step k (fun i hi hlt => hm i hi hlt)
  wide h k := d.M_mono h k
  bound k := d.M_mono (fun i hi => ⟨hi.1, hi.2.1, hi.2.2.1⟩) (d.M_bound k)
/-- Nothing. -/
def Emp : Ch := ⟨fun _ _ _ => True, fun _ _ => trivial, fun _ _ => trivial, fun _ => trivial⟩
/-- The state of memory: what is shared is as_ it was, what is owned lies apart. -/
structure Own (G : Gd) (L : List Ch) (W : World) : Prop where
  ok : G.ok W
  B : G.B ≤ W.heap.size
  os : W.os = G.W0.os
  tape : W.tape = G.W0.tape
  out : W.output = G.W0.output
  mem : ∃ fp : Nat → Nat → Prop, (∀ i (c : Ch), L[i]? = some c → c.holds G.B W (fp i)) ∧ (∀ i j k, i ≠ j → fp i k → ¬ fp j k) ∧ (∀ i k, fp i k → ¬ G.S k ∧ G.B ≤ k ∧ k < W.heap.size)
/-- What is left of a state when worlds differ in what was drawn alone. -/
theorem Own.heap {G : Gd} {L : List Ch} {W W' : World} (h : Own G L W) (hh : W'.heap = W.heap) (h1 : W'.os = W.os) (h2 : W'.tape = W.tape) (h3 : W'.output = W.output) : Own G L W' := by
  obtain ⟨ok, B, os, tape, out, fp, a, b, c⟩ := h
  refine ⟨fun k hk => by rw [hh]; exact ok k hk, by rw [hh]; exact B, h1.trans os, h2.trans tape, h3.trans out, fp, fun i x hi => x.move (fun k _ _ => by rw [hh]) (a i x hi), b, fun i k hk => by rw [hh]; exact c i k hk⟩
/-- Some parts, in any order. -/
theorem Own.sel {G : Gd} {L : List Ch} {W : World} (is : List Nat) {L' : List Ch} (h : Own G L W) (hn : is.Nodup) (hl : L'.map some = is.map fun i => L[i]?) : Own G L' W := by
  obtain ⟨ok, B, os, tape, out, fp, a, b, c⟩ := h
  have hlen : L'.length = is.length := by simpa using congrArg List.length hl
  have hget : ∀ (i : Nat) (x : Ch), L'[i]? = some x → ∃ j : Nat, is[i]? = some j ∧ L[j]? = some x := fun i x hi => by
    have := congrArg (fun l : List (Option Ch) => l[i]?) hl
    simp only [List.getElem?_map, hi, Option.map_some] at this
    cases e : is[i]? with
    | none => rw [e] at this; cases this
    | some j => rw [e] at this; simp only [Option.map_some, Option.some.injEq] at this; exact ⟨j, rfl, this.symm⟩
  refine ⟨ok, B, os, tape, out, fun i k => ∃ j, is[i]? = some j ∧ fp j k, fun i x hi => ?_, ?_, ?_⟩
  · obtain ⟨j, e, hj⟩ := hget i x hi
    exact x.wide (fun k hk => ⟨j, e, hk⟩) (a j x hj)
  · rintro i i' k hne ⟨j, e, hj⟩ ⟨j', e', hj'⟩
    refine b j j' k (fun hjj => hne ?_) hj hj'
    subst hjj
    have hi : i < is.length := (List.getElem?_eq_some_iff.1 e).1
    exact (List.getElem?_inj hi hn).1 (e.trans e'.symm)
  · rintro i k ⟨j, _, hj⟩
    exact c j k hj
/-- A step that turns one part, and what is new. -/
theorem Own.step {G : Gd} {c c' : Ch} {L L' : List Ch} {W W' : World} (h : Own G L W) (i : Nat) (hi : L[i]? = some c) (hL : L.set i c' = L') (h1 : W'.os = W.os) (h2 : W'.tape = W.tape) (h3 : W'.output = W.output) (hs : W.heap.size ≤ W'.heap.size)
    (hc : ∀ F : Nat → Prop, (∀ k, F k → ¬ G.S k ∧ G.B ≤ k ∧ k < W.heap.size) → c.holds G.B W F → c'.holds G.B W' (fun k => F k ∨ W.heap.size ≤ k) ∧ ∀ k, k < W.heap.size → ¬ F k → W'.heap[k]? = W.heap[k]?) : Own G L' W' := by
  subst hL
  obtain ⟨ok, B, os, tape, out, fp, a, b, d⟩ := h
  obtain ⟨x, y⟩ := hc (fp i) (d i) (a i c hi)
  refine ⟨fun k hk => (y k (ok.lt hk) (fun hf => (d i k hf).1 hk)).trans (ok k hk), Nat.le_trans B hs, h1.trans os, h2.trans tape, h3.trans out,
    fun j k => (j = i ∧ (fp i k ∨ W.heap.size ≤ k) ∧ G.B ≤ k ∧ k < W'.heap.size) ∨ (j ≠ i ∧ fp j k), fun j u hj => ?_, fun j j' k hne hj hj' => ?_, fun j k hk => ?_⟩
  · by_cases e : j = i
    · subst e
      have hlt : j < L.length := (List.getElem?_eq_some_iff.1 hi).1
      rw [List.getElem?_set_self hlt] at hj
      obtain rfl := Option.some.inj hj
      exact Ch.wide _ (fun k hk => .inl ⟨rfl, hk⟩) (c'.bound x)
    · rw [List.getElem?_set_ne (Ne.symm e)] at hj
      exact u.wide (fun k hk => .inr ⟨e, hk⟩) (u.move (fun k hk hlt => y k hlt (fun hf => b j i k e hk hf)) (a j u hj))
  · rcases hj with ⟨e, hj⟩ | ⟨e, hj⟩ <;> rcases hj' with ⟨e', hj'⟩ | ⟨e', hj'⟩
    · exact hne (e.trans e'.symm)
    · rcases hj.1 with hj | hj
      · exact b i j' k (fun h => e' h.symm) hj hj'
      · have := (d j' k hj').2.2; omega
    · rcases hj'.1 with hj' | hj'
      · exact b j i k e hj hj'
      · have := (d j k hj).2.2; omega
    · exact b j j' k hne hj hj'
  · rcases hk with ⟨_, hk⟩ | ⟨_, hk⟩
    · refine ⟨fun hS => ?_, hk.2⟩
      rcases hk.1 with hk' | hk'
      · exact (d i k hk').1 hS
      · have := ok.lt hS; omega
    · exact ⟨(d j k hk).1, (d j k hk).2.1, Nat.lt_of_lt_of_le (d j k hk).2.2 hs⟩
/-- The first two parts become one. -/
theorem Own.two {G : Gd} {c1 c2 c' : Ch} {L : List Ch} {W : World} (h : Own G (c1 :: c2 :: L) W)
    (hc : ∀ F1 F2 : Nat → Prop, (∀ k, F1 k → ¬ F2 k) → c1.holds G.B W F1 → c2.holds G.B W F2 → c'.holds G.B W (fun k => F1 k ∨ F2 k)) : Own G (c' :: L) W := by
  obtain ⟨ok, B, os, tape, out, fp, a, b, d⟩ := h
  refine ⟨ok, B, os, tape, out, fun i k => match i with | 0 => fp 0 k ∨ fp 1 k | j + 1 => fp (j + 2) k, fun i u hi => ?_, fun i j k hne hi hj => ?_, fun i k hk => ?_⟩
  · cases i with
    | zero =>
      obtain rfl : c' = u := by simpa using hi
      exact hc (fp 0) (fp 1) (fun k h1 => b 0 1 k (by omega) h1) (a 0 c1 rfl) (a 1 c2 rfl)
    | succ i => exact a (i + 2) u (by simpa using hi)
  · cases i with
    | zero =>
      cases j with
      | zero => exact hne rfl
      | succ j =>
        rcases hi with hi | hi
        · exact b 0 (j + 2) k (by omega) hi hj
        · exact b 1 (j + 2) k (by omega) hi hj
    | succ i =>
      cases j with
      | zero =>
        rcases hj with hj | hj
        · exact b (i + 2) 0 k (by omega) hi hj
        · exact b (i + 2) 1 k (by omega) hi hj
      | succ j => exact b (i + 2) (j + 2) k (by omega) hi hj
  · cases i with
    | zero => rcases hk with hk | hk; (· exact d 0 k hk); (· exact d 1 k hk)
    | succ i => exact d (i + 2) k hk
/-- The first part, told otherwise. -/
theorem Own.conv {G : Gd} {c c' : Ch} {L : List Ch} {W : World} (h : Own G (c :: L) W) (hc : ∀ F : Nat → Prop, c.holds G.B W F → c'.holds G.B W F) : Own G (c' :: L) W := by
  refine h.step 0 rfl rfl rfl rfl rfl (Nat.le_refl _) (fun F hF hh => ⟨c'.wide (fun k hk => .inl hk) (hc F hh), fun _ _ _ => rfl⟩)
/-- Something new of one's own, in a world that has but grown. -/
theorem Own.add {G : Gd} {c : Ch} {L : List Ch} {W W' : World} (h : Own G L W) (hb : Below W.heap.size W W') (hc : c.holds G.B W' (fun k => W.heap.size ≤ k)) : Own G (c :: L) W' := by
  obtain ⟨ok, B, os, tape, out, fp, a, b, d⟩ := h
  refine ⟨fun k hk => (hb.block k (ok.lt hk)).trans (ok k hk), Nat.le_trans B hb.size, hb.os.trans os, hb.tape.trans tape, hb.output.trans out,
    fun i k => match i with | 0 => W.heap.size ≤ k ∧ G.B ≤ k ∧ k < W'.heap.size | j + 1 => fp j k, fun i u hi => ?_, fun i j k hne hi hj => ?_, fun i k hk => ?_⟩
  · cases i with
    | zero =>
      obtain rfl : c = u := by simpa using hi
      exact c.bound hc
    | succ i => exact u.move (fun k hk hlt => hb.block k hlt) (a i u (by simpa using hi))
  · cases i with
    | zero =>
      cases j with
      | zero => exact hne rfl
      | succ j => have := (d j k hj).2.2; omega
    | succ i =>
      cases j with
      | zero => have := (d i k hi).2.2; omega
      | succ j => exact b i j k (by omega) hi hj
  · cases i with
    | zero => exact ⟨fun hS => by have := ok.lt hS; omega, hk.2⟩
    | succ i => exact ⟨(d i k hk).1, (d i k hk).2.1, Nat.lt_of_lt_of_le (d i k hk).2.2 hb.size⟩
theorem Own.below {G : Gd} {L : List Ch} {W W' : World} (h : Own G L W) (hb : Below W.heap.size W W') : Own G L W' := by
  have := (h.add (c := Emp) hb trivial)
  refine this.sel ((List.range L.length).map (· + 1)) ?_ ?_
  · exact List.Pairwise.map _ (fun a b h => by omega) List.nodup_range
  · apply List.ext_getElem?
    intro i
    by_cases hi : i < L.length
    · simp [hi]
    · simp [hi, List.getElem?_eq_none (Nat.le_of_not_lt hi)]
/-- A step that turns the first two parts into one; what it comes to is found on the way. -/
theorem Own.ex {β : Type} {G : Gd} {c1 c2 : Ch} {c' : β → Ch} {R : β → World → Prop} {L : List Ch} {W : World} (h : Own G (c1 :: c2 :: L) W)
    (H : ∀ F1 F2 : Nat → Prop, (∀ k, F1 k → ¬ F2 k) → c1.holds G.B W F1 → c2.holds G.B W F2 → G.B ≤ W.heap.size → ∃ b W', R b W' ∧ W'.os = W.os ∧ W'.tape = W.tape ∧ W'.output = W.output ∧ W.heap.size ≤ W'.heap.size ∧ (c' b).holds G.B W' (fun k => F1 k ∨ F2 k ∨ W.heap.size ≤ k) ∧
      ∀ k, k < W.heap.size → ¬ F1 k → ¬ F2 k → W'.heap[k]? = W.heap[k]?) : ∃ b W', R b W' ∧ Own G (c' b :: L) W' := by
  obtain ⟨ok, B, os, tape, out, fp, a, b, d⟩ := h
  obtain ⟨v, W', hR, h1, h2, h3, hs, x, y⟩ := H (fp 0) (fp 1) (fun k h => b 0 1 k (by omega) h) (a 0 c1 rfl) (a 1 c2 rfl) B
  refine ⟨v, W', hR, ⟨fun k hk => (y k (ok.lt hk) (fun hf => (d 0 k hf).1 hk) (fun hf => (d 1 k hf).1 hk)).trans (ok k hk), Nat.le_trans B hs, h1.trans os, h2.trans tape, h3.trans out,
    fun i k => match i with | 0 => (fp 0 k ∨ fp 1 k ∨ W.heap.size ≤ k) ∧ G.B ≤ k ∧ k < W'.heap.size | j + 1 => fp (j + 2) k, fun i u hi => ?_, fun i j k hne hi hj => ?_, fun i k hk => ?_⟩⟩
  · cases i with
    | zero =>
      obtain rfl : c' v = u := by simpa using hi
      exact (c' v).bound x
    | succ i => exact u.move (fun k hk hlt => y k hlt (fun hf => b (i + 2) 0 k (by omega) hk hf) (fun hf => b (i + 2) 1 k (by omega) hk hf)) (a (i + 2) u (by simpa using hi))
  · have far : ∀ m, (fp 0 k ∨ fp 1 k ∨ W.heap.size ≤ k) → fp (m + 2) k → False := fun m h1 h2 => by
      rcases h1 with h1 | h1 | h1
      · exact b 0 (m + 2) k (by omega) h1 h2
      · exact b 1 (m + 2) k (by omega) h1 h2
      · have := (d (m + 2) k h2).2.2; omega
    cases i with
    | zero =>
      cases j with
      | zero => exact hne rfl
      | succ j => exact far j hi.1 hj
    | succ i =>
      cases j with
      | zero => exact far i hj.1 hi
      | succ j => exact b (i + 2) (j + 2) k (by omega) hi hj
  · cases i with
    | zero =>
      refine ⟨fun hS => ?_, hk.2⟩
      rcases hk.1 with hk' | hk' | hk'
      · exact (d 0 k hk').1 hS
      · exact (d 1 k hk').1 hS
      · have := ok.lt hS; omega
    | succ i => exact ⟨(d (i + 2) k hk).1, (d (i + 2) k hk).2.1, Nat.lt_of_lt_of_le (d (i + 2) k hk).2.2 hs⟩
/-- The first part becomes shared. -/
theorem Own.share {G : Gd} {c : Ch} {L : List Ch} {W : World} (h : Own G (c :: L) W) : ∃ G', G.le G' ∧ Own G' L W ∧ (∀ W', G'.ok W' → ∃ F, c.holds G.B W' F) ∧
    ∀ L' W', Own G' L' W' → Own G (c :: L') W' := by
  obtain ⟨ok, B, os, tape, out, fp, a, b, d⟩ := h
  have hfb : ∀ k, fp 0 k → k < W.heap.size := fun k hk => (d 0 k hk).2.2
  have hle : G.le ⟨W, fun k => G.S k ∨ fp 0 k, fun k hk => hk.elim (fun h => ok.lt h) (hfb k), G.B⟩ := ⟨fun k hk => ⟨.inl hk, ok k hk⟩, rfl, os, tape, out⟩
  refine ⟨_, hle, ⟨fun k hk => rfl, B, rfl, rfl, rfl, fun i => fp (i + 1), ?_, ?_, ?_⟩, ?_, ?_⟩
  · exact fun i x hi => a (i + 1) x (by simpa using hi)
  · exact fun i j k hne => b (i + 1) (j + 1) k (by omega)
  · exact fun i k hk => ⟨fun hS => hS.elim (d (i + 1) k hk).1 (fun h0 => b (i + 1) 0 k (by omega) hk h0), (d (i + 1) k hk).2⟩
  · exact fun W' hW => ⟨fp 0, c.move (fun k hk _ => hW k (.inr hk)) (a 0 c rfl)⟩
  · rintro L' W' ⟨ok', B', os', tape', out', fp', a', b', d'⟩
    refine ⟨hle.ok ok', B', os'.trans os, tape'.trans tape, out'.trans out, fun i k => match i with | 0 => fp 0 k | j + 1 => fp' j k, fun i u hi => ?_, fun i j k hne hi hj => ?_, fun i k hk => ?_⟩
    · cases i with
      | zero =>
        obtain rfl : c = u := by simpa using hi
        exact c.move (fun k hk _ => ok' k (.inr hk)) (a 0 c rfl)
      | succ i => exact a' i u (by simpa using hi)
    · cases i with
      | zero =>
        cases j with
        | zero => exact hne rfl
        | succ j => exact (d' j k hj).1 (.inr hi)
      | succ i =>
        cases j with
        | zero => exact (d' i k hi).1 (.inr hj)
        | succ j => exact b' i j k (by omega) hi hj
    · cases i with
      | zero => exact ⟨(d 0 k hk).1, (d 0 k hk).2.1, ok'.lt (.inr hk)⟩
      | succ i => exact ⟨fun hS => (d' i k hk).1 (.inl hS), (d' i k hk).2⟩
end Go.Proofs.Ythlhmoocgjddpaa.Sy
set_option linter.unusedVariables false
set_option linter.unusedSimpArgs false
namespace Go.Proofs.Ythlhmoocgjddpaa.Sy
open Go Go.RowKit Go.Proofs.YthlhmoocgjddpaaW.PrintWords
/-- The slots that are known, the newest first. -/
abbrev Env := List (Nat × Value)
def get : Env → Nat → Option Value
  | [], _ => none
  | (k, v) :: r, d => match Nat.beq k d with
    | true => some v
    | false => get r d
def ev (e : Env) : Operand → Option Value
  | .tmp t => get e t
  | .const v => some v
  | .func f => some (.func (.func f) #[] #[])
  | .global _ => none
def evs (e : Env) : List Operand → Option (List Value)
  | [] => some []
  | x :: r => match ev e x, evs e r with
    | some v, some l => some (v :: l)
    | _, _ => none
/-- How many slots, and what is deferred. -/
structure Nd where
  n : Nat
  D : List Deferred
instance (k : Nat) : OfNat Nd k := ⟨⟨k, []⟩⟩
def Nd.push (N : Nd) (d : Deferred) : Nd := ⟨N.n, d :: N.D⟩
structure Fr (N : Nd) (a : Act) (e : Env) : Prop where
  df : a.defers = N.D
  sz : a.tmps.size = N.n
  at_ : ∀ d v, get e d = some v → a.tmps[d]? = some v
theorem Fr.ev {N : Nd} {a : Act} {e : Env} (h : Fr N a e) {x : Operand} {v : Value} (hx : ev e x = some v) : a.eval x = v := by
  cases x with
  | tmp t =>
    have := h.at_ t v hx
    simp [Act.eval, Array.getD_eq_getD_getElem?, this]
  | const c => exact Option.some.inj hx
  | func f => exact Option.some.inj hx
  | global g => cases hx
theorem Fr.evs {N : Nd} {a : Act} {e : Env} (h : Fr N a e) : ∀ {xs : List Operand} {vs : List Value}, evs e xs = some vs → xs.map a.eval = vs
  | [], vs, hx => by cases hx; rfl
  | x :: r, vs, hx => by
    unfold Sy.evs at hx
    split at hx
    · rename_i v l h1 h2
      cases hx
      simp [h.ev h1, Fr.evs h h2]
    · cases hx
theorem Fr.put {N : Nd} {a : Act} {e : Env} (h : Fr N a e) {d : Nat} (hd : Nat.blt d N.n = true) (v : Value) : Fr N (a.put (some d) v) ((d, v) :: e) := by
  have hd' : d < N.n := by simpa [Nat.blt_eq] using hd
  refine ⟨h.df, by simp [Act.put, h.sz], fun d' v' hg => ?_⟩
  unfold get at hg
  have hs := h.sz
  cases hb : Nat.beq d d' with
  | true =>
    rw [hb] at hg
    obtain rfl := Nat.eq_of_beq_eq_true hb
    cases hg
    simp only [Act.put]
    rw [Array.getElem?_setIfInBounds_self, if_pos (by omega)]
  | false =>
    rw [hb] at hg
    have hne := Nat.ne_of_beq_eq_false hb
    simp only [Act.put]
    rw [Array.getElem?_setIfInBounds_ne hne]
    exact h.at_ d' v' hg
theorem Fr.none {N : Nd} {a : Act} {e : Env} (h : Fr N a e) (v : Value) : Fr N (a.put Option.none v) e := h
/-- Fewer slots. -/
def Sub (e : Env) : Env → Prop
  | [] => True
  | (k, v) :: r => get e k = some v ∧ Sub e r
theorem Sub.get {e : Env} : ∀ {e' : Env}, Sub e e' → ∀ d v, get e' d = some v → get e d = some v
  | [], _, d, v, h => by cases h
  | (k, u) :: r, hs, d, v, h => by
    unfold Sy.get at h
    cases hb : Nat.beq k d with
    | true =>
      rw [hb] at h
      obtain rfl := Nat.eq_of_beq_eq_true hb
      cases h
      exact hs.1
    | false =>
      rw [hb] at h
      exact Sub.get hs.2 d v h
theorem Fr.sub {N : Nd} {a : Act} {e e' : Env} (h : Fr N a e) (hs : Sub e e') : Fr N a e' := ⟨h.df, h.sz, fun d v hg => h.at_ d v (hs.get d v hg)⟩
def isDefer : Op → Bool
  | .defer _ => true
  | _ => false
/-- The fence: wide, in a round or in none. -/
abbrev Fw (r : Option Nat) : Fence := { Fence.wide with round := r }
section
variable (P : Program) (r : Option Nat)
/-- Whatever follows. -/
def TK (K : Act → World → Prop) (N : Nd) (e : Env) (G : Gd) (L : List Ch) : Prop := ∀ a W, Fr N a e → Own G L W → K a W
/-- One operation, then K. -/
def wpO (ops : Array Oper) (Q : Exit → Act → World → Prop) (o : Oper) (K : Act → World → Prop) (a : Act) (W : World) : Prop :=
  if Region.wanted o (yielded ops a.tmps) then o.wpIn (Fw r) 0 P a W K Q else (∀ f, o.about P W a.eval = some f → (Fw r).fn f) ∧ K (a.put o.dst undef) W
abbrev TL (ops : Array Oper) (Q : Exit → Act → World → Prop) (N : Nd) (l : List Oper) (e : Env) (G : Gd) (L : List Ch) : Prop := TK (wpListIn (Fw r) 0 P ops Q l) N e G L
def TO (ops : Array Oper) (Q : Exit → Act → World → Prop) (K : Act → World → Prop) (N : Nd) (o : Oper) (e : Env) (G : Gd) (L : List Ch) : Prop := ∀ a W, Fr N a e → Own G L W → wpO P r ops Q o K a W
def TC (Q : Exit → Act → World → Prop) (N : Nd) (c : Code) (e : Env) (G : Gd) (L : List Ch) : Prop := ∀ a W, Fr N a e → Own G L W → c.wpIn (Fw r) 0 P Q a W
def TQ (Q : Exit → Act → World → Prop) (x : Exit) (N : Nd) (e : Env) (G : Gd) (L : List Ch) : Prop := ∀ a W, Fr N a e → Own G L W → Q x a W
end
/-- Is an operation wanted? -/
def Wt (ops : Array Oper) (e : Env) (o : Oper) : Option Bool :=
  match o.guard with
  | none => some true
  | some (j, w) => match ((ops[j]?).bind (·.dst)).bind (get e) with
    | some (.bool b) => some (b == w)
    | some _ => some false
    | none => none
section
variable {P : Program} {r : Option Nat} {ops : Array Oper} {Q : Exit → Act → World → Prop} {N : Nd} {e : Env} {G : Gd} {L : List Ch} {rest : List Oper} {K : Act → World → Prop}
theorem Wt.of {a : Act} {o : Oper} {b : Bool} (h : Wt ops e o = some b) (ha : Fr N a e) : Region.wanted o (yielded ops a.tmps) = b := by
  unfold Wt at h
  unfold Region.wanted
  cases hg : o.guard with
  | none => rw [hg] at h; cases h; rfl
  | some jw =>
    obtain ⟨j, w⟩ := jw
    rw [hg] at h
    simp only at h
    split at h
    · rename_i b' hb
      cases h
      obtain ⟨t, ht, hv⟩ := Option.bind_eq_some_iff.1 hb
      have := ha.at_ t _ hv
      simp [yielded, ht, this]
    · rename_i v hne hb
      cases h
      obtain ⟨t, ht, hv⟩ := Option.bind_eq_some_iff.1 hb
      have := ha.at_ t _ hv
      have hy : yielded ops a.tmps j = none := by
        unfold yielded
        rw [ht, Option.bind_some, this]
        cases v <;> first | rfl | exact absurd rfl (hne _)
      simp [hy]
    · cases h
theorem semAt_eq {ρ : Operand → Value} {o : Oper} (h : ∀ c, o.op ≠ .defer c) : Oper.semAt r ρ o = execOp ρ o := by
  cases r with
  | none => rfl
  | some l => exact Oper.semAt_some l ρ o h
/-- An operation that comes to a value. -/
theorem step_value {a : Act} {W W' : World} {o : Oper} {v : Value} (hw : Region.wanted o (yielded ops a.tmps) = true) (hnd : ∀ c, o.op ≠ .defer c) (hr : (execOp a.eval o).run P W = .ok (.value v) W')
    (k : K (a.put o.dst v) W') : wpO P r ops Q o K a W := by
  unfold wpO
  rw [if_pos hw]
  refine ⟨fun _ _ => trivial, ?_⟩
  have hrd : (Fw r).round = r := rfl
  rw [hrd, semAt_eq hnd, hr]
  exact k
theorem step_skip {a : Act} {W W' : World} {o : Oper} (hw : Region.wanted o (yielded ops a.tmps) = true) (hnd : ∀ c, o.op ≠ .defer c) (hr : (execOp a.eval o).run P W = .ok .skip W')
    (k : K (a.put o.dst undef) W') : wpO P r ops Q o K a W := by
  unfold wpO
  rw [if_pos hw]
  refine ⟨fun _ _ => trivial, ?_⟩
  have hrd : (Fw r).round = r := rfl
  rw [hrd, semAt_eq hnd, hr]
  exact k
theorem step_call {a : Act} {W W' : World} {o : Oper} {f : FuncId} {args : Array Value} {R : Ending → World → Prop} (hw : Region.wanted o (yielded ops a.tmps) = true) (hnd : ∀ c, o.op ≠ .defer c) (hr : (execOp a.eval o).run P W = .ok (.enter f args) W')
    (hc : Calls P f args W' R) (k : ∀ en W2, R en W2 → ∃ v, en = .returned v ∧ K (a.put o.dst v) W2) : wpO P r ops Q o K a W := by
  unfold wpO
  rw [if_pos hw]
  refine ⟨fun _ _ => trivial, ?_⟩
  have hrd : (Fw r).round = r := rfl
  rw [hrd, semAt_eq hnd, hr, Oper.uponIn_enter]
  refine ⟨(fun h => (by cases h)), ?_⟩
  have hci : CallsIn (Fw r) (0 - 1) P f args W' R := by
    cases r with
    | none => exact callsIn_wide.2 hc
    | some l => exact CallsIn.inRound l (callsIn_wide.2 hc)
  refine hci.mono ?_
  rintro en W2 hR
  obtain ⟨v, rfl, hk⟩ := k en W2 hR
  exact hk
theorem step_not {a : Act} {W : World} {o : Oper} (hw : Region.wanted o (yielded ops a.tmps) = false) (k : K (a.put o.dst undef) W) : wpO P r ops Q o K a W := by
  unfold wpO
  rw [if_neg (by rw [hw]; decide)]
  exact ⟨fun _ _ => trivial, k⟩
/-! ### Control -/
theorem TC.seq {c1 c2 : Code} (h : TC P r (Exit.then (c2.wpIn (Fw r) 0 P Q) Q) N c1 e G L) : TC P r Q N (c1.seq c2) e G L := fun a W hF hO => wpIn_seq (h a W hF hO)
theorem TC.skip (h : TQ Q .normal N e G L) : TC P r Q N .skip e G L := fun a W hF hO => wpIn_skip (h a W hF hO)
theorem TC.exit {id : Nat} (h : TQ Q (.exit id) N e G L) : TC P r Q N (.exit id) e G L := fun a W hF hO => wpIn_exit (h a W hF hO)
theorem TC.ret (h : TQ Q .ret N e G L) : TC P r Q N .ret e G L := fun a W hF hO => wpIn_ret (h a W hF hO)
theorem TC.block {id : Nat} {c : Code} (h : TC P r (Exit.inBlock id Q) N c e G L) : TC P r Q N (.block id c) e G L := fun a W hF hO => wpIn_block (h a W hF hO)
theorem TC.region {id : Nat} {l : List Oper} (h : TL P r l.toArray Q N l e G L) : TC P r Q N (.region id l.toArray false) e G L := fun a W hF hO => wpIn_region_lit (h a W hF hO)
theorem TL.cons {o : Oper} (h : TO P r ops Q (wpListIn (Fw r) 0 P ops Q rest) N o e G L) : TL P r ops Q N (o :: rest) e G L := fun a W hF hO => h a W hF hO
theorem TL.nil (h : TQ Q .normal N e G L) : TL P r ops Q N [] e G L := fun a W hF hO => wpListIn_nil (h a W hF hO)
theorem TC.cond {t : Nat} {x y : Code} {b : Bool} (hc : get e t = some (.bool b)) (h1 : b = true → TC P r Q N x e G L) (h2 : b = false → TC P r Q N y e G L) : TC P r Q N (.cond (.tmp t) x y) e G L := fun a W hF hO =>
  wpIn_cond_split (t := b) (hF.ev (x := .tmp t) hc) (fun hb => h1 hb a W hF hO) (fun hb => h2 hb a W hF hO)
/-- A test, and what is reckoned of it. -/
theorem TC.cond_p {t : Nat} {x y : Code} {p : Prop} [Decidable p] {α : Type} {A B : Option α} {s : α} (hc : get e t = some (.bool (decide p))) (h : (if p then A else B) = some s) (h1 : p → A = some s → TC P r Q N x e G L) (h2 : ¬ p → B = some s → TC P r Q N y e G L) :
    TC P r Q N (.cond (.tmp t) x y) e G L := by
  refine TC.cond hc (fun hb => ?_) (fun hb => ?_)
  · have hp := of_decide_eq_true hb
    rw [if_pos hp] at h
    exact h1 hp h
  · have hp := of_decide_eq_false hb
    rw [if_neg hp] at h
    exact h2 hp h
theorem TC.cond_b {t : Nat} {x y : Code} {b : Bool} {α : Type} {A B : Option α} {s : α} (hc : get e t = some (.bool b)) (h : (if b = true then A else B) = some s) (h1 : b = true → A = some s → TC P r Q N x e G L) (h2 : b = false → B = some s → TC P r Q N y e G L) :
    TC P r Q N (.cond (.tmp t) x y) e G L := by
  refine TC.cond hc (fun hb => ?_) (fun hb => ?_)
  · rw [if_pos hb] at h
    exact h1 hb h
  · rw [if_neg (by rw [hb]; decide)] at h
    exact h2 hb h
/-- Rounds that are counted. -/
theorem TC.loop {c : Code} (S : Nat → Act → World → Prop) (hz : ∀ a W, ¬ S 0 a W) (hr : ∀ k a W, S (k + 1) a W → c.wpIn (Fw r) 0 P (Exit.then (S k) Q) a W) {k : Nat} {a : Act} {W : World} (h : S k a W) : (Code.loop c).wpIn (Fw r) 0 P Q a W := by
  classical
  have least : ∀ (a : Act) (W : World), (∃ k, S k a W) → ∃ n, S n a W ∧ ∀ j, S j a W → n ≤ j := fun a W ⟨k, hk⟩ => by
    induction k using Nat.strongRecOn with
    | _ k ih =>
      by_cases hj : ∃ j, j < k ∧ S j a W
      · obtain ⟨j, hlt, hs⟩ := hj
        exact ih j hlt hs
      · exact ⟨k, hk, fun j hs => Nat.le_of_not_lt (fun hlt => hj ⟨j, hlt, hs⟩)⟩
  refine wpIn_loop (fun a W => ∃ k, S k a W) (fun a W => if h : ∃ k, S k a W then (least a W h).choose else 0) ⟨k, h⟩ (fun a W hI => ?_)
  obtain ⟨hn, hle⟩ := (least a W hI).choose_spec
  generalize hm : (least a W hI).choose = n at hn hle
  cases n with
  | zero => exact absurd hn (hz a W)
  | succ n =>
    refine wpIn_mono (hr n a W hn) ?_
    rintro x a' W' hq
    cases x with
    | normal =>
      have hex : ∃ k, S k a' W' := ⟨n, hq⟩
      refine ⟨hex, ?_⟩
      rw [dif_pos hex, dif_pos hI, hm]
      exact Nat.lt_succ_of_le ((least a' W' hex).choose_spec.2 n hq)
    | _ => exact hq
theorem TL.not {d : Nat} {op : Op} {ty : TypeId} {pos : String} {af : Array Edge} {g : Option (Nat × Bool)} (hw : Wt ops e ⟨some d, op, ty, pos, af, g⟩ = some false) (hd : Nat.blt d N.n = true) (k : TK K N ((d, undef) :: e) G L) :
    TO P r ops Q K N ⟨some d, op, ty, pos, af, g⟩ e G L := fun a W hF hO => step_not (Wt.of hw hF) (k _ W (hF.put hd undef) hO)
/-! ### Operations that only reckon -/
variable {d : Nat} {ty : TypeId} {pos : String} {af : Array Edge} {g : Option (Nat × Bool)}
/-- The world stays, the value is known. -/
def Val (P : Program) (N : Nd) (e : Env) (G : Gd) (L : List Ch) (o : Oper) (v : Value) : Prop := ∀ a W, Fr N a e → Own G L W → (execOp a.eval o).run P W = .ok (.value v) W
theorem TO.val {op : Op} {v : Value} (hw : Wt ops e ⟨some d, op, ty, pos, af, g⟩ = some true) (hd : Nat.blt d N.n = true) (hnd : isDefer op = false) (hr : Val P N e G L ⟨some d, op, ty, pos, af, g⟩ v) (k : TK K N ((d, v) :: e) G L) : TO P r ops Q K N ⟨some d, op, ty, pos, af, g⟩ e G L := fun a W hF hO =>
  step_value (Wt.of hw hF) (fun c hc => by simp only at hc; subst hc; cases hnd) (hr a W hF hO) (k _ W (hF.put hd v) hO)
theorem TL.val {op : Op} (v : Value) (hw : Wt ops e ⟨some d, op, ty, pos, af, g⟩ = some true) (hd : Nat.blt d N.n = true) (hnd : ∀ c, op ≠ .defer c) (hr : ∀ a W, Fr N a e → (execOp a.eval ⟨some d, op, ty, pos, af, g⟩).run P W = .ok (.value v) W)
    (k : TK K N ((d, v) :: e) G L) : TO P r ops Q K N ⟨some d, op, ty, pos, af, g⟩ e G L := fun a W hF hO =>
  step_value (Wt.of hw hF) hnd (hr a W hF) (k _ W (hF.put hd v) hO)
theorem Val.move {x : Operand} {v : Value} (hx : ev e x = some v) : Val P N e G L ⟨some d, .move x, ty, pos, af, g⟩ (v) := fun a W hF hO => by simp [execOp, hF.ev hx]
theorem Val.assign {x : Operand} {v : Value} (hx : ev e x = some v) : Val P N e G L ⟨some d, .assign x, ty, pos, af, g⟩ (v) := fun a W hF hO => by simp [execOp, hF.ev hx]
theorem Val.pickT {c x y : Operand} {v : Value} (hc : ev e c = some (.bool true)) (hx : ev e x = some v) : Val P N e G L ⟨some d, .pick c x y, ty, pos, af, g⟩ (v) := fun a W hF hO => by simp [execOp, hF.ev hc, hF.ev hx, asBool]
theorem Val.pickF {c x y : Operand} {v : Value} (hc : ev e c = some (.bool false)) (hy : ev e y = some v) : Val P N e G L ⟨some d, .pick c x y, ty, pos, af, g⟩ (v) := fun a W hF hO => by simp [execOp, hF.ev hc, hF.ev hy, asBool]
theorem Val.nilCheck {x : Operand} {p : Addr} (hx : ev e x = some (.pointer (some p))) : Val P N e G L ⟨some d, .nilCheck x, ty, pos, af, g⟩ (.pointer (some p)) := fun a W hF hO => by simp [execOp, hF.ev hx]
theorem Val.extract {t : Operand} {vs : Array Value} {i : Nat} {v : Value} (hx : ev e t = some (.tuple vs)) (hi : vs[i]? = some v) : Val P N e G L ⟨some d, .extract t i, ty, pos, af, g⟩ (v) := fun a W hF hO => by simp [execOp, hF.ev hx, Instr.extract, hi]
theorem Val.makeFunc {fn : Fn} {as_ bs : Array Operand} {xs ys : List Value} (hx : evs e as_.toList = some xs) (hy : evs e bs.toList = some ys) : Val P N e G L ⟨some d, .makeFunc fn as_ bs, ty, pos, af, g⟩ (.func fn xs.toArray ys.toArray) := fun a W hF hO => by
    have h1 : as_.map a.eval = xs.toArray := Array.ext' (by rw [Array.toList_map, hF.evs hx])
    have h2 : bs.map a.eval = ys.toArray := Array.ext' (by rw [Array.toList_map, hF.evs hy])
    simp [execOp, Instr.makeFunc, h1, h2]
theorem Val.not_ {x : Operand} {b : Bool} {t : TypeId} (hx : ev e x = some (.bool b)) : Val P N e G L ⟨some d, .unOp .not t x, ty, pos, af, g⟩ (.bool !b) := fun a W hF hO => by simp [execOp, hF.ev hx, Op.unary]
/-- A field's place. -/
theorem Val.fieldAddr {T f : Nat} {x : Operand} {p : Addr} {fs : Array Field} {fd : Field} {m off : Nat} (hT : P.underlying T = some (.struct fs)) (hf : fs[f]? = some fd) (hs : (P.info? fd.type).map (·.size) = some (m + 1)) (ho : fd.offset = off) (hx : ev e x = some (.pointer (some p))) : Val P N e G L ⟨some d, .fieldAddr T x f, ty, pos, af, g⟩ (.pointer (some (p.add off))) := fun a W hF hO => by
    obtain ⟨i, hi, hs'⟩ := Option.map_eq_some_iff.1 hs
    simp [execOp, hF.ev hx, Instr.fieldAt, underlying, hT, hf, Instr.sureAddr, fieldPlace, sizeOf, typeInfo, hi, hs', ho]
end
end Go.Proofs.Ythlhmoocgjddpaa.Sy
set_option linter.unusedVariables false
set_option linter.unusedSimpArgs false
namespace Go.Proofs.Ythlhmoocgjddpaa.Sy
open Go Go.RowKit Go.Proofs.YthlhmoocgjddpaaW.PrintWords
theorem add_blk (g j off : Nat) : (⟨g, j, none⟩ : Addr).add off = ⟨g, j + off, none⟩ := by
  unfold Addr.add; split <;> simp_all
/-- A cell, a row, a value's cells: shared. -/
def Cl (G : Gd) (p : Addr) (v : Value) : Prop := ∀ W, G.ok W → W.cell? p = some v
def Rd {α : Type} (G : Gd) (d : Kd α) (A : Option Addr) (xs : List α) : Prop := ∀ W, G.ok W → d.C W A xs.length xs
def RdK {α : Type} (G : Gd) (d : Kd α) (x : α) (cs : List Value) : Prop := ∀ W, G.ok W → d.K W x cs
theorem Cl.up {G G' : Gd} (h : G.le G') {p : Addr} {v : Value} (k : Cl G p v) : Cl G' p v := fun W hW => k W (h.ok hW)
theorem Rd.up {α : Type} {G G' : Gd} (h : G.le G') {d : Kd α} {A : Option Addr} {xs : List α} (k : Rd G d A xs) : Rd G' d A xs := fun W hW => k W (h.ok hW)
theorem RdK.up {α : Type} {G G' : Gd} (h : G.le G') {d : Kd α} {x : α} {cs : List Value} (k : RdK G d x cs) : RdK G' d x cs := fun W hW => k W (h.ok hW)
theorem Rd.nil {α : Type} (G : Gd) (d : Kd α) : Rd G d none ([] : List α) := fun W _ => Kd.C_nil d W
/-- What is read in every world lies in what is shared. -/
theorem cell_shared {G : Gd} {p : Addr} (h : ∀ W, G.ok W → ∃ v, W.cell? p = some v) : G.S p.block := by
  classical
  refine Classical.byContradiction (fun hS => ?_)
  obtain ⟨W', h1, h2⟩ := Kd.emptied G.W0 p.block
  obtain ⟨v, hv⟩ := h W' (fun k hk => h1 k (fun e => hS (e ▸ hk)))
  rw [h2 p rfl] at hv
  cases hv
theorem cell_same_ok {G : Gd} {p : Addr} (hS : G.S p.block) {W : World} (hW : G.ok W) : W.cell? p = G.W0.cell? p := World.cell?_of_block (w := G.W0) (hW _ hS)
theorem Rd.get {α : Type} {G : Gd} {d : Kd α} {A : Option Addr} {xs : List α} (h : Rd G d A xs) (z : α) (i : Int) (h0 : 0 ≤ i) (h1 : i < xs.length) :
    ∃ ad cs, A = some ad ∧ (∀ j u, cs[j]? = some u → Cl G (ad.add (i.toNat * d.sz + j)) u) ∧ RdK G d (xs.getD i.toNat z) cs := by
  obtain ⟨ad, c, hA, hl, hK, hc⟩ := Kd.C_get (h G.W0 G.self) z i h0 h1
  have key : ∀ W, G.ok W → ∃ c', c'.length = d.sz ∧ d.K W (xs.getD i.toNat z) c' ∧ ∀ j u, c'[j]? = some u → W.cell? (ad.add (i.toNat * d.sz + j)) = some u := fun W hW => by
    obtain ⟨ad', c', hA', hl', hK', hc'⟩ := Kd.C_get (h W hW) z i h0 h1
    rw [hA] at hA'
    obtain rfl := Option.some.inj hA'
    exact ⟨c', d.K_len hK', hK', hc'⟩
  have hlen := d.K_len hK
  have same : ∀ W, G.ok W → ∀ c', c'.length = d.sz → (∀ j u, c'[j]? = some u → W.cell? (ad.add (i.toNat * d.sz + j)) = some u) → c' = c := fun W hW c' hl' hc' => by
    apply List.ext_getElem?
    intro j
    by_cases hj : j < d.sz
    · have e1 : c[j]? = some (c[j]'(by omega)) := List.getElem?_eq_getElem (by omega)
      have e2 : c'[j]? = some (c'[j]'(by omega)) := List.getElem?_eq_getElem (by omega)
      have hS : G.S (ad.add (i.toNat * d.sz + j)).block := cell_shared (fun W2 hW2 => by
        obtain ⟨c2, hl2, _, hc2⟩ := key W2 hW2
        exact ⟨_, hc2 j _ (List.getElem?_eq_getElem (by omega))⟩)
      have := (hc' j _ e2).symm.trans ((cell_same_ok hS hW).trans (hc j _ e1))
      rw [e1, e2]
      exact this
    · rw [List.getElem?_eq_none (by omega), List.getElem?_eq_none (by omega)]
  refine ⟨ad, c, hA, fun j u hj W hW => ?_, fun W hW => ?_⟩
  · obtain ⟨c', hl', hK', hc'⟩ := key W hW
    rw [same W hW c' hl' hc'] at hc'
    exact hc' j u hj
  · obtain ⟨c', hl', hK', hc'⟩ := key W hW
    rw [same W hW c' hl' hc'] at hK'
    exact hK'
theorem Rd.max {α : Type} {G : Gd} {d : Kd α} {A : Option Addr} {xs : List α} (h : Rd G d A xs) : xs.length ≤ 9223372036854775807 := (h G.W0 G.self).2.1
section
variable {P : Program} {r : Option Nat} {ops : Array Oper} {Q : Exit → Act → World → Prop} {N : Nd} {e : Env} {G : Gd} {L : List Ch} {rest : List Oper} {K : Act → World → Prop}
variable {d : Nat} {ty : TypeId} {pos : String} {af : Array Edge} {g : Option (Nat × Bool)}
/-- Is a type one of several cells? -/
def aggB (P : Program) (T : TypeId) : Option Bool :=
  match P.underlying T with
  | some (.struct _) | some (.array _ _) => some true
  | some _ => some false
  | none => none
theorem run_isAgg {T : TypeId} {b : Bool} (h : aggB P T = some b) (W : World) : (isAgg T).run P W = .ok b W := by
  unfold aggB at h
  cases hu : P.underlying T with
  | none => rw [hu] at h; cases h
  | some t =>
    rw [hu] at h
    cases t <;> simp_all [isAgg, underlying]
theorem Own.blk {W : World} (h : Own G L W) {i : Nat} {b T : Nat} {cs : List Value} (hc : L[i]? = some (Blk b cs T)) : W.heap[b]? = some (.cells cs.toArray T (0, 0)) := by
  obtain ⟨ok, B, os, tape, out, fp, a, _⟩ := h
  exact (a i _ hc).2.2
/-- A cell's value, of whatever memory. -/
theorem Val.load {T : TypeId} {x : Operand} {p : Addr} {v : Value} (hT : aggB P T = some false) (hx : ev e x = some (.pointer (some p))) (hv : ∀ W, Own G L W → W.cell? p = some v) : Val P N e G L ⟨some d, .load T x, ty, pos, af, g⟩ (v) := fun a W hF hO => by
  simp [execOp, hF.ev hx, Instr.loadAt, Instr.sureAddr, loadVar, run_isAgg hT W, hv W hO]
theorem Val.loadS {T : TypeId} {x : Operand} {p : Addr} {v : Value} (hT : aggB P T = some false) (hx : ev e x = some (.pointer (some p))) (hv : Cl G p v) : Val P N e G L ⟨some d, .load T x, ty, pos, af, g⟩ (v) := Val.load hT hx (fun W hO => hv W hO.ok)
theorem Val.loadB (i : Nat) {T T' : TypeId} {x : Operand} {b j : Nat} {cs : List Value} {v : Value} (hT : aggB P T = some false) (hx : ev e x = some (.pointer (some ⟨b, j, none⟩))) (hc : L[i]? = some (Blk b cs T')) (hv : cs[j]? = some v) : Val P N e G L ⟨some d, .load T x, ty, pos, af, g⟩ (v) := Val.load hT hx (fun W hO => by rw [blk_cell (hO.blk hc) j]; simpa using hv)
/-- Several cells. -/
theorem Val.loads {T : TypeId} {x : Operand} {p : Addr} {cs : List Value} {m : Nat} (hT : aggB P T = some true) (hs : (P.info? T).map (·.size) = some m) (hm : cs.length = m) (hx : ev e x = some (.pointer (some p))) (hv : ∀ W, Own G L W → ∀ j v, cs[j]? = some v → W.cell? (p.add j) = some v) : Val P N e G L ⟨some d, .load T x, ty, pos, af, g⟩ (.agg cs.toArray) := fun a W hF hO => by
    obtain ⟨i, hi, hs'⟩ := Option.map_eq_some_iff.1 hs
    have := run_loadCells_list (P := P) W p cs (hv W hO)
    rw [hm] at this
    simp [execOp, hF.ev hx, Instr.loadAt, Instr.sureAddr, loadVar, run_isAgg hT W, sizeOf, typeInfo, hi, hs', this]
theorem Val.loadsS {T : TypeId} {x : Operand} {p : Addr} {cs : List Value} {m : Nat} (hT : aggB P T = some true) (hs : (P.info? T).map (·.size) = some m) (hm : cs.length = m) (hx : ev e x = some (.pointer (some p))) (hv : ∀ j v, cs[j]? = some v → Cl G (p.add j) v) : Val P N e G L ⟨some d, .load T x, ty, pos, af, g⟩ (.agg cs.toArray) := Val.loads hT hs hm hx (fun W hO j v hj => hv j v hj W hO.ok)
theorem Val.loadsB (i : Nat) {T T' : TypeId} {x : Operand} {b o : Nat} {cs ds : List Value} {m : Nat} (hT : aggB P T = some true) (hs : (P.info? T).map (·.size) = some m) (hm : cs.length = m) (hx : ev e x = some (.pointer (some ⟨b, o, none⟩))) (hc : L[i]? = some (Blk b ds T')) (hv : (ds.drop o).take m = cs) : Val P N e G L ⟨some d, .load T x, ty, pos, af, g⟩ (.agg cs.toArray) := Val.loads hT hs hm hx (fun W hO j v hj => by
    rw [add_blk, blk_cell (hO.blk hc)]
    subst hv
    have hjm : j < m := by
      have := (List.getElem?_eq_some_iff.1 hj).1
      rw [List.length_take] at this
      omega
    rw [List.getElem?_take_of_lt hjm, List.getElem?_drop] at hj
    simpa using hj)
/-- A new block. -/
theorem TL.alloc {T : TypeId} {cs : List Value} {z : Value} (hw : Wt ops e ⟨some d, .alloc T, ty, pos, af, g⟩ = some true) (hd : Nat.blt d N.n = true) (hz : (P.info? T).bind (·.zero) = some z) (hc : z.cells.toList = cs)
    (k : ∀ b, TK K N ((d, .pointer (some ⟨b, 0, none⟩)) :: e) G (Blk b cs T :: L)) : TO P r ops Q K N ⟨some d, .alloc T, ty, pos, af, g⟩ e G L := fun a W hF hO => by
  obtain ⟨i, hi, hz'⟩ := Option.bind_eq_some_iff.1 hz
  have hcs : z.cells = cs.toArray := by rw [← hc]
  refine step_value (v := .pointer (some ⟨W.heap.size, 0, none⟩)) (W' := W.alloc (.cells cs.toArray T)) (Wt.of hw hF) (by simp) ?_ (k W.heap.size _ _ (hF.put hd _) (hO.add ((Below.refl _ W).alloc (Nat.le_refl _) _) ⟨Nat.le_refl _, hO.B, blk_new W _⟩))
  simp [execOp, Instr.alloc, zeroValue, typeInfo, hi, hz', newVar, newRow, hcs]
theorem TL.box {T : TypeId} {x : Operand} {v : Value} {cs : List Value} (hw : Wt ops e ⟨some d, .box T x, ty, pos, af, g⟩ = some true) (hd : Nat.blt d N.n = true) (hx : ev e x = some v) (hc : v.cells.toList = cs)
    (k : ∀ b, TK K N ((d, .pointer (some ⟨b, 0, none⟩)) :: e) G (Blk b cs T :: L)) : TO P r ops Q K N ⟨some d, .box T x, ty, pos, af, g⟩ e G L := fun a W hF hO => by
  have hcs : v.cells = cs.toArray := by rw [← hc]
  refine step_value (v := .pointer (some ⟨W.heap.size, 0, none⟩)) (W' := W.alloc (.cells cs.toArray T)) (Wt.of hw hF) (by simp) ?_ (k W.heap.size _ _ (hF.put hd _) (hO.add ((Below.refl _ W).alloc (Nat.le_refl _) _) ⟨Nat.le_refl _, hO.B, blk_new W _⟩))
  simp [execOp, hF.ev hx, Instr.box, newVar, newRow, hcs]
/-- A store into a block. -/
theorem TL.store (i : Nat) {T T' : TypeId} {x y : Operand} {b o : Nat} {cs ds cs' : List Value} {v : Value} {L' : List Ch} (hw : Wt ops e ⟨none, .store T x y, ty, pos, af, g⟩ = some true) (hs : (P.info? T).map (·.size) = some ds.length) (hx : ev e x = some (.pointer (some ⟨b, o, none⟩))) (hy : ev e y = some v) (hv : v.cells.toList = ds) (h1 : ds.all (·.oneCell') = true)
    (hc : L[i]? = some (Blk b cs T')) (hl : o + ds.length ≤ cs.length) (hcs : cs.take o ++ ds ++ cs.drop (o + ds.length) = cs') (hL : L.set i (Blk b cs' T') = L') (k : TK K N e G L') : TO P r ops Q K N ⟨none, .store T x y, ty, pos, af, g⟩ e G L := fun a W hF hO => by
  have hb := hO.blk hc
  obtain ⟨W', hr, hw'⟩ : ∃ W', (Instr.storeAt T (.pointer (some ⟨b, o, none⟩)) v).run P W = .ok () W' ∧ Own G L' W' := by
    have hcell : ∀ q ∈ ds, q.oneCell' = true := by simpa using h1
    have hr := run_storeCells_at (P := P) b o T' ds 0 cs.toArray W hb (by simpa using hl) hcell
    simp only [Nat.add_zero, hcs] at hr
    refine ⟨W.setRow b cs'.toArray, ?_, hO.step i hc hL rfl rfl rfl (by simp) (fun F hF hh => ⟨⟨.inl hh.1, hh.2.1, setRow_heap W b _ _ T' _ hb⟩, fun k hk hn => setRow_other W b k _ (fun e => hn (e ▸ hh.1))⟩)⟩
    obtain ⟨ii, hi, hsz⟩ := Option.map_eq_some_iff.1 hs
    have hcc : v.cells.size = ii.size := by rw [hsz, ← hv, Array.length_toList]
    simp [Instr.storeAt, Instr.sureAddr, storeVar, sizeOf, typeInfo, hi, hcc, hv, hr]
  exact step_skip (Wt.of hw hF) (by simp) (by simp [execOp, hF.ev hx, hF.ev hy, hr]) (k _ W' (hF.none undef) hw')
end
end Go.Proofs.Ythlhmoocgjddpaa.Sy
set_option linter.unusedVariables false
set_option linter.unusedSimpArgs false
namespace Go.Proofs.Ythlhmoocgjddpaa.Sy
open Go Go.RowKit Go.Proofs.YthlhmoocgjddpaaW.PrintWords
/-- Some of the first h parts, in any order; what stands behind stays. -/
theorem Own.selT {G : Gd} {L0 Ls T : List Ch} {W : World} (is : List Nat) (h : Nat) (hO : Own G L0 W) (hn : (is.Nodup && is.all (· < h)) = true) (hl : Ls.map some = is.map fun i => L0[i]?) (ht : L0.drop h = T) : Own G (Ls ++ T) W := by
  obtain ⟨hn1, hn2⟩ := (Bool.and_eq_true _ _).mp hn
  have hn1 := of_decide_eq_true hn1
  have hlt : ∀ i ∈ is, i < h := fun i hi => by simpa using (List.all_eq_true.1 hn2) i hi
  refine hO.sel (is ++ (List.range T.length).map (· + h)) ?_ ?_
  · rw [List.nodup_append]
    refine ⟨hn1, List.Pairwise.map _ (fun a b h => by omega) List.nodup_range, fun a ha b hb => ?_⟩
    have := hlt a ha
    obtain ⟨j, _, rfl⟩ := List.mem_map.1 hb
    omega
  · rw [List.map_append, List.map_append, hl]
    congr 1
    apply List.ext_getElem?
    intro i
    subst ht
    by_cases hi : i < (L0.drop h).length
    · have e : (L0.drop h)[i]? = some ((L0.drop h)[i]'hi) := List.getElem?_eq_getElem hi
      simp only [List.getElem?_map, e, Option.map_some, List.getElem?_range hi]
      rw [List.getElem?_drop] at e
      rw [Nat.add_comm i h, e]
    · rw [List.getElem?_eq_none (by simpa using hi), List.getElem?_eq_none (by simpa using hi)]
def argEnv : Nat → List Value → Env
  | _, [] => []
  | i, v :: r => (i, v) :: argEnv (i + 1) r
theorem argEnv_get : ∀ (l : List Value) (i d : Nat) (v : Value), get (argEnv i l) d = some v → ∃ j, d = i + j ∧ l[j]? = some v
  | [], _, _, _, h => by cases h
  | u :: r, i, d, v, h => by
    unfold argEnv get at h
    cases hb : Nat.beq i d with
    | true =>
      rw [hb] at h
      cases h
      exact ⟨0, (Nat.eq_of_beq_eq_true hb).symm, rfl⟩
    | false =>
      rw [hb] at h
      obtain ⟨j, rfl, hj⟩ := argEnv_get r (i + 1) d v h
      exact ⟨j + 1, by omega, by simpa using hj⟩
/-- What a call leaves: parts of the caller's (L) stay. -/
def FRel (G : Gd) (Post : Value → Gd → List Ch → Prop) (L : List Ch) (en : Ending) (W' : World) : Prop := ∃ v G' Lr, en = .returned v ∧ G.le G' ∧ Post v G' Lr ∧ Own G' (Lr ++ L) W'
def Fn (P : Program) (f : FuncId) (G : Gd) (Lin : List Ch) (args : List Value) (Post : Value → Gd → List Ch → Prop) : Prop := ∀ L W, Own G (Lin ++ L) W → Calls P f args.toArray W (FRel G Post L)
/-- What a body must achieve: no panic. -/
def BP (P : Program) (fn : Func) (R : Ending → World → Prop) : Exit → Act → World → Prop
  | .normal, a, w | .ret, a, w => LeavesInM Fence.wide 0 P fn a.tmps R a.defers .returning w
  | _, _, _ => False
theorem BP.to {P : Program} {fn : Func} {R : Ending → World → Prop} (x : Exit) (a : Act) (w : World) (h : BP P fn R x a w) : bodyPostM Fence.wide 0 P fn R x a w := by
  cases x <;> first | exact h | exact h.elim
theorem fr_start {args : List Value} {e : Env} {N : Nd} {fn : Func} (hn : fn.ntmps = N.n) (hD : N.D = []) (he : argEnv 0 args = e) (hle : args.length ≤ N.n) : Fr N { tmps := args.toArray ++ Array.replicate (fn.ntmps - args.toArray.size) undef, defers := [] } e := by
  refine ⟨hD.symm, by simp [hn]; omega, fun d v hg => ?_⟩
  rw [← he] at hg
  obtain ⟨j, rfl, hj⟩ := argEnv_get args 0 d v hg
  have hlt := (List.getElem?_eq_some_iff.1 hj).1
  rw [Nat.zero_add, Array.getElem?_append_left (by simpa using hlt)]
  simpa using hj
theorem calls_body {P : Program} {f : FuncId} {fn : Func} {c : Code} {args : List Value} {e : Env} {N : Nd} {G : Gd} {L : List Ch} {R : Ending → World → Prop} (hf : P.funcs[f]? = some fn) (hb : fn.body = some c) (hn : fn.ntmps = N.n) (hD : N.D = []) (he : argEnv 0 args = e) (hle : args.length ≤ N.n)
    (h : TC P none (BP P fn R) N c e G L) {W : World} (hO : Own G L W) : Calls P f args.toArray W R :=
  callsIn_wide (n := 0).1 (callsIn_of_wp_marks hf hb trivial (wpIn_mono (h _ W (fr_start hn hD he hle) hO) BP.to) rfl)
theorem Fn.intro {P : Program} {f : FuncId} {fn : Func} {c : Code} {G : Gd} {Lin : List Ch} {args : List Value} {Post : Value → Gd → List Ch → Prop} {e : Env} (N : Nd) (hf : P.funcs[f]? = some fn) (hb : fn.body = some c) (hn : fn.ntmps = N.n) (hD : N.D = []) (he : argEnv 0 args = e) (hle : args.length ≤ N.n)
    (h : ∀ L, TC P none (BP P fn (FRel G Post L)) N c e G (Lin ++ L)) : Fn P f G Lin args Post := fun L W hO => calls_body hf hb hn hD he hle (h L) hO
/-- What results are, at the end. -/
inductive RVs (P : Program) (e : Env) (L : List Ch) : List ResultVar → List Value → Prop where
  | nil : RVs P e L [] []
  | tmp {t : Tmp} {v : Value} {rs : List ResultVar} {vs : List Value} (hv : get e t = some v) (h : RVs P e L rs vs) : RVs P e L (.tmp t :: rs) (v :: vs)
  | cells (i : Nat) {t : Tmp} {T T' b : Nat} {cs : List Value} {rs : List ResultVar} {vs : List Value} (hv : get e t = some (.pointer (some ⟨b, 0, none⟩))) (hc : L[i]? = some (Blk b cs T')) (hT : aggB P T = some true) (hs : (P.info? T).map (·.size) = some cs.length) (h : RVs P e L rs vs) : RVs P e L (.cell t T :: rs) (.agg cs.toArray :: vs)
  | cell (i : Nat) {t : Tmp} {T T' b : Nat} {cs : List Value} {v : Value} {rs : List ResultVar} {vs : List Value} (hv : get e t = some (.pointer (some ⟨b, 0, none⟩))) (hc : L[i]? = some (Blk b cs T')) (hT : aggB P T = some false) (hs : cs[0]? = some v) (h : RVs P e L rs vs) : RVs P e L (.cell t T :: rs) (v :: vs)
theorem RVs.run {P : Program} {e : Env} {L : List Ch} {rs : List ResultVar} {vs : List Value} (h : RVs P e L rs vs) {N : Nd} {a : Act} {W : World} {G : Gd} (hF : Fr N a e) (hO : Own G L W) (f : ResultVar → Sem Value) (hf : ∀ u, f (.tmp u) = pure (a.tmps.getD u undef))
    (hc : ∀ u t, f (.cell u t) = (do loadVar t (← asAddr (a.tmps.getD u undef)))) : (rs.mapM f).run P W = .ok vs W := by
  induction h with
  | nil => simp
  | tmp hv h ih =>
    have := hF.ev (x := .tmp _) hv
    simp only [Act.eval] at this
    simp [List.mapM_cons, hf, ih, this]
  | cells i hv hb hT hs h ih =>
    have := hF.ev (x := .tmp _) hv
    simp only [Act.eval] at this
    obtain ⟨j, hj, hs'⟩ := Option.map_eq_some_iff.1 hs
    have hl := run_loadCells_list (P := P) W ⟨_, 0, none⟩ _ (fun k v hk => by rw [add_blk, blk_cell (hO.blk hb)]; simpa using hk)
    rw [List.mapM_cons, hc, this]
    simp [asAddr, loadVar, run_isAgg hT W, sizeOf, typeInfo, hj, hs', hl, ih]
  | cell i hv hb hT hs h ih =>
    have := hF.ev (x := .tmp _) hv
    simp only [Act.eval] at this
    have hl : W.cell? ⟨_, 0, none⟩ = some _ := (blk_cell (hO.blk hb) 0).trans (by simpa using hs)
    rw [List.mapM_cons, hc, this]
    simp [asAddr, loadVar, run_isAgg hT W, hl, ih]
def res1 : List Value → Value
  | [v] => v
  | l => .tuple l.toArray
/-- What is left to do behind the body: what was deferred, then the results. -/
def Lv (P : Program) (fn : Func) (R : Ending → World → Prop) (tmps : Array Value) (ds : List Deferred) (G : Gd) (L : List Ch) : Prop := ∀ W, Own G L W → LeavesInM Fence.wide 0 P fn tmps R ds .returning W
theorem TQ.leave {P : Program} {fn : Func} {R : Ending → World → Prop} {x : Exit} {N : Nd} {e : Env} {G : Gd} {L : List Ch} (hx : x = .ret ∨ x = .normal) (h : ∀ a, Fr N a e → Lv P fn R a.tmps N.D G L) : TQ (BP P fn R) x N e G L := fun a W hF hO => by
  have key := h a hF W hO
  rw [← hF.df] at key
  rcases hx with rfl | rfl <;> exact key
theorem Lv.nil {P : Program} {fn : Func} {R : Ending → World → Prop} {N : Nd} {a : Act} {e : Env} {G : Gd} {L0 : List Ch} {rs : List ResultVar} {vs : List Value} {v : Value} (hF : Fr N a e) (hr : fn.results = rs.toArray) (hv : RVs P e L0 rs vs) (hres : res1 vs = v) (h : ∀ W, Own G L0 W → R (.returned v) W) : Lv P fn R a.tmps [] G L0 := fun W hO => by
  refine ⟨v, ?_, h W hO⟩
  unfold results
  rw [hr, List.mapM_toArray]
  simp only [Sem.run_bind, Sem.run_map]
  rw [hv.run hF hO]
  · rw [← hres]
    match vs with
    | [] => simp [res1]
    | [v] => simp [res1]
    | v :: u :: r => simp [res1]
  · intro u; rfl
  · intro u t; rfl
theorem TQ.fin {P : Program} {fn : Func} {R : Ending → World → Prop} {G : Gd} {L0 : List Ch} {N : Nd} {e : Env} {rs : List ResultVar} {vs : List Value} {v : Value} {x : Exit} (hx : x = .ret ∨ x = .normal) (hD : N.D = []) (hr : fn.results = rs.toArray) (hv : RVs P e L0 rs vs) (hres : res1 vs = v) (h : ∀ W, Own G L0 W → R (.returned v) W) : TQ (BP P fn R) x N e G L0 :=
  TQ.leave hx (fun a hF => by rw [hD]; exact Lv.nil hF hr hv hres h)
theorem FRel.mk {G G' : Gd} {Post : Value → Gd → List Ch → Prop} {L Ls L0 : List Ch} {v : Value} (is : List Nat) (h : Nat) (hle : G.le G') (hn : (is.Nodup && is.all (· < h)) = true) (hl : Ls.map some = is.map fun i => L0[i]?) (ht : L0.drop h = L) (hp : Post v G' Ls) : ∀ W, Own G' L0 W → FRel G Post L (.returned v) W := fun W hO => ⟨v, G', Ls, rfl, hle, hp, hO.selT is h hn hl ht⟩
theorem TQ.done {P : Program} {fn : Func} {G G' : Gd} {Post : Value → Gd → List Ch → Prop} {L Ls L0 : List Ch} {N : Nd} {e : Env} {rs : List ResultVar} {vs : List Value} {v : Value} {x : Exit} (hx : x = .ret ∨ x = .normal) (is : List Nat) (h : Nat) (hr : fn.results = rs.toArray) (hv : RVs P e L0 rs vs) (hres : res1 vs = v)
    (hle : G.le G') (hn : (is.Nodup && is.all (· < h)) = true) (hl : Ls.map some = is.map fun i => L0[i]?) (ht : L0.drop h = L) (hp : Post v G' Ls) (hD : N.D = [] := by rfl) : TQ (BP P fn (FRel G Post L)) x N e G' L0 := TQ.fin hx hD hr hv hres (FRel.mk is h hle hn hl ht hp)
/-- What follows a call. -/
def After (K : Act → World → Prop) (d : Option Tmp) (a : Act) (en : Ending) (W : World) : Prop := ∃ v, en = .returned v ∧ K (a.put d v) W
theorem After.mk {K : Act → World → Prop} {d : Nat} {a : Act} {N : Nd} {e : Env} {G : Gd} {L : List Ch} {v : Value} (hF : Fr N a e) (hd : Nat.blt d N.n = true) (k : TK K N ((d, v) :: e) G L) : ∀ W, Own G L W → After K (some d) a (.returned v) W := fun W hO => ⟨v, rfl, k _ W (hF.put hd v) hO⟩
section
variable {P : Program} {r : Option Nat} {ops : Array Oper} {Q Q' : Exit → Act → World → Prop} {N : Nd} {e : Env} {G : Gd} {L L' : List Ch} {rest : List Oper} {K : Act → World → Prop} {c : Code}
/-! ### How an exit passes -/
theorem TQ.then_ (h : TC P r Q' N c e G L) : TQ (Exit.then (c.wpIn (Fw r) 0 P Q') Q) .normal N e G L := h
theorem TQ.thenX {K : Act → World → Prop} {i : Nat} (h : TQ Q (.exit i) N e G L) : TQ (Exit.then K Q) (.exit i) N e G L := h
theorem TQ.thenR {K : Act → World → Prop} (h : TQ Q .ret N e G L) : TQ (Exit.then K Q) .ret N e G L := h
theorem TQ.inB {i : Nat} (h : TQ Q .normal N e G L) : TQ (Exit.inBlock i Q) .normal N e G L := h
theorem TQ.inBX {i : Nat} (h : TQ Q .normal N e G L) : TQ (Exit.inBlock i Q) (.exit i) N e G L := fun a W hF hO => by
  show (if i = i then Q .normal a W else Q (.exit i) a W)
  rw [if_pos rfl]; exact h a W hF hO
theorem TQ.inBR {i : Nat} (h : TQ Q .ret N e G L) : TQ (Exit.inBlock i Q) .ret N e G L := h
/-- Where ways meet. -/
theorem TC.join {c2 : Code} (J : Act → World → Prop) (hJ : ∀ a W, J a W → c2.wpIn (Fw r) 0 P Q a W) (h : TC P r (Exit.then J Q) N c e G L) : TC P r Q N (c.seq c2) e G L := TC.seq (fun a W hF hO => wpIn_mono (h a W hF hO) (fun x a' W' hq => by cases x <;> first | exact hJ _ _ hq | exact hq))
theorem none_no {α : Type} {s : α} (h : (none : Option α) = some s) : False := by cases h
theorem ite_no {α : Type} {p : Prop} [Decidable p] {A : Option α} {s : α} (h : (if p then A else none) = some s) : p ∧ A = some s := by
  by_cases hp : p
  · rw [if_pos hp] at h; exact ⟨hp, h⟩
  · rw [if_neg hp] at h; cases h
theorem bind_no {α β : Type} {x : Option α} {f : α → Option β} {s : β} (h : (x.bind f) = some s) : ∃ y, x = some y ∧ f y = some s := Option.bind_eq_some_iff.1 h
/-- A guarded operation. -/
theorem Wt.yes {o : Oper} {j t : Nat} {w b : Bool} (hg : o.guard = some (j, w)) (hj : (ops[j]?).bind (·.dst) = some t) (he : get e t = some (.bool b)) (hb : b = w) : Wt ops e o = some true := by
  subst hb; simp [Wt, hg, hj, he]
theorem Wt.no {o : Oper} {j t : Nat} {w b : Bool} (hg : o.guard = some (j, w)) (hj : (ops[j]?).bind (·.dst) = some t) (he : get e t = some (.bool b)) (hb : b = !w) : Wt ops e o = some false := by
  subst hb; simp [Wt, hg, hj, he]
variable {d : Nat} {ty : TypeId} {pos : String} {af : Array Edge} {g : Option (Nat × Bool)}
theorem Val.pickY {c x y : Operand} {b : Bool} {v : Value} (hc : ev e c = some (.bool b)) (hb : b = true) (hx : ev e x = some v) : Val P N e G L ⟨some d, .pick c x y, ty, pos, af, g⟩ (v) := by
  subst hb; exact Val.pickT hc hx
theorem Val.pickN {c x y : Operand} {b : Bool} {v : Value} (hc : ev e c = some (.bool b)) (hb : b = false) (hy : ev e y = some v) : Val P N e G L ⟨some d, .pick c x y, ty, pos, af, g⟩ (v) := by
  subst hb; exact Val.pickF hc hy
/-- A test inside a region. -/
theorem TK.split {p : Prop} [Decidable p] {α : Type} {A B : Option α} {s : α} (h : (if p then A else B) = some s) (h1 : p → A = some s → TK K N e G L) (h2 : ¬ p → B = some s → TK K N e G L) : TK K N e G L := by
  by_cases hp : p
  · rw [if_pos hp] at h; exact h1 hp h
  · rw [if_neg hp] at h; exact h2 hp h
theorem TK.sel {Ls T : List Ch} (is : List Nat) (h : Nat) (hn : (is.Nodup && is.all (· < h)) = true) (hl : Ls.map some = is.map fun i => L[i]?) (ht : L.drop h = T) (k : TK K N e G (Ls ++ T)) : TK K N e G L := fun a W hF hO => k a W hF (hO.selT is h hn hl ht)
theorem TC.sel {Ls T : List Ch} (is : List Nat) (h : Nat) (hn : (is.Nodup && is.all (· < h)) = true) (hl : Ls.map some = is.map fun i => L[i]?) (ht : L.drop h = T) (k : TC P r Q N c e G (Ls ++ T)) : TC P r Q N c e G L := fun a W hF hO => k a W hF (hO.selT is h hn hl ht)
/-! ### Numbers -/
section
variable {x y : Operand} {k : IntKind} {a b : Int} {t t' : TypeId}
theorem Val.cmp {op : BinOp} {v : Value} (hx : ev e x = some (.int k a)) (hy : ev e y = some (.int k b))
    (hr : ∀ W, (binOp op t (.int k a) (.int k b)).run P W = .ok v W) : Val P N e G L ⟨some d, .binOp op t x y t', ty, pos, af, g⟩ (v) := fun ac W hF hO => by
    have h1 := hr W
    cases op <;> simp_all [execOp, hF.ev hx, hF.ev hy, eqGuard]
theorem run_lss (W : World) : (binOp .lss t (.int k a) (.int k b)).run P W = .ok (.bool (decide (a < b))) W := by simp [binOp, Op.intCmp]
theorem run_leq (W : World) : (binOp .leq t (.int k a) (.int k b)).run P W = .ok (.bool (decide (a ≤ b))) W := by simp [binOp, Op.intCmp]
theorem run_gtr (W : World) : (binOp .gtr t (.int k a) (.int k b)).run P W = .ok (.bool (decide (b < a))) W := by simp [binOp, Op.intCmp]
theorem run_geq (W : World) : (binOp .geq t (.int k a) (.int k b)).run P W = .ok (.bool (decide (b ≤ a))) W := by simp [binOp, Op.intCmp]
theorem run_eql (W : World) : (binOp .eql t (.int k a) (.int k b)).run P W = .ok (.bool (decide (a = b))) W := by simp [binOp, Op.intCmp]; rfl
theorem run_neq (W : World) : (binOp .neq t (.int k a) (.int k b)).run P W = .ok (.bool (!decide (a = b))) W := by simp [binOp, Op.intCmp]; rfl
theorem run_add (W : World) : (binOp .add t (.int k a) (.int k b)).run P W = .ok (.int k (k.wrap (a + b))) W := by simp [binOp, Op.intArith]
theorem run_sub (W : World) : (binOp .sub t (.int k a) (.int k b)).run P W = .ok (.int k (k.wrap (a - b))) W := by simp [binOp, Op.intArith]
theorem run_mul (W : World) : (binOp .mul t (.int k a) (.int k b)).run P W = .ok (.int k (k.wrap (a * b))) W := by simp [binOp, Op.intArith]
end
end
end Go.Proofs.Ythlhmoocgjddpaa.Sy
set_option linter.unusedVariables false
set_option linter.unusedSimpArgs false
namespace Go.Proofs.Ythlhmoocgjddpaa.Sy
open Go Go.RowKit Go.Proofs.YthlhmoocgjddpaaW.PrintWords
/-- The element at an index, if one is there. -/
def at? {α : Type} (xs : List α) (i : Int) : Option α := if 0 ≤ i then xs[i.toNat]? else none
/-- Where ways meet. -/
def jn {β γ : Type} (k : β) (f : β → Option γ) : Option γ := f k
theorem jn_no {β γ : Type} {k : β} {f : β → Option γ} {s : γ} (h : jn k f = some s) : ∃ c, c = k ∧ f c = some s := ⟨k, rfl, h⟩
section
variable {P : Program} {r : Option Nat} {ops : Array Oper} {Q Q' : Exit → Act → World → Prop} {N : Nd} {e : Env} {G : Gd} {L L' : List Ch} {rest : List Oper} {K : Act → World → Prop} {c : Code}
variable {d : Nat} {ty : TypeId} {pos : String} {af : Array Edge} {g : Option (Nat × Bool)} {x y : Operand}
/-! ### Calls -/
/-- A function with a body of its own. -/
def hasBody (P : Program) (f : Nat) : Bool := match P.funcs[f]? with
  | some fn => fn.body.isSome && !(fn.name == "runtime.NumGoroutine")
  | none => false
theorem run_callFunc {f : Nat} (hb : hasBody P f = true) (args : Array Value) (W : World) : (callFunc f args).run P W = .ok (.enter f args) W := by
  unfold hasBody at hb
  unfold callFunc
  cases hf : P.funcs[f]? with
  | none => rw [hf] at hb; cases hb
  | some fn =>
    rw [hf] at hb
    obtain ⟨h1, h2⟩ := (Bool.and_eq_true _ _).mp hb
    have h2 : ¬ fn.name = "runtime.NumGoroutine" := by simpa using h2
    have h1 : ¬ fn.body = none := by intro hq; rw [hq] at h1; cases h1
    simp [hf, h2, h1]
theorem TL.callV {Lin L1 : List Ch} {fo : Operand} {f : Nat} {first cap : Array Value} {as_ : Array Operand} {at_ : Array TypeId} {vs args : List Value} {Post : Value → Gd → List Ch → Prop} (hw : Wt ops e ⟨some d, .call ⟨.value fo, as_, at_⟩, ty, pos, af, g⟩ = some true) (hd : Nat.blt d N.n = true)
    (hf : ev e fo = some (.func (.func f) first cap)) (hb : hasBody P f = true) (has : evs e as_.toList = some vs) (hargs : first.toList ++ vs ++ cap.toList = args) (hc : Fn P f G Lin args Post) (hL : Lin ++ L1 = L)
    (k : ∀ v G' Lr, G.le G' → Post v G' Lr → TK K N ((d, v) :: e) G' (Lr ++ L1)) : TO P r ops Q K N ⟨some d, .call ⟨.value fo, as_, at_⟩, ty, pos, af, g⟩ e G L := fun a W hF hO => by
  subst hL
  have h1 : as_.map a.eval = vs.toArray := Array.ext' (by rw [Array.toList_map, hF.evs has])
  refine step_call (Wt.of hw hF) (by simp) (f := f) (args := args.toArray) (W' := W) ?_ (hc L1 W hO) ?_
  · have : first ++ vs.toArray ++ cap = args.toArray := Array.ext' (by rw [← hargs]; simp)
    simp [execOp, resolve, hF.ev hf, h1, Deferred.ofValue, invoke, run_callFunc hb, this]
  · rintro en W2 ⟨v, G', Lr, rfl, hle, hp, hO2⟩
    exact ⟨v, rfl, k v G' Lr hle hp _ W2 (hF.put hd v) hO2⟩
/-- A part is lent: shared for a while. -/
theorem TK.share {ch : Ch} (h : ∀ G', G.le G' → (∀ W, G'.ok W → ∃ F, ch.holds G.B W F) → (∀ Lx W, Own G' Lx W → Own G (ch :: Lx) W) → TK K N e G' L) : TK K N e G (ch :: L) := fun a W hF hO => by
  obtain ⟨G', h1, h2, h3, h4⟩ := hO.share
  exact h G' h1 h3 h4 a W hF h2
theorem TC.share {ch : Ch} (h : ∀ G', G.le G' → (∀ W, G'.ok W → ∃ F, ch.holds G.B W F) → (∀ Lx W, Own G' Lx W → Own G (ch :: Lx) W) → TC P r Q N c e G' L) : TC P r Q N c e G (ch :: L) := fun a W hF hO => by
  obtain ⟨G', h1, h2, h3, h4⟩ := hO.share
  exact h G' h1 h3 h4 a W hF h2
theorem TK.back {G' : Gd} {ch : Ch} (hr : ∀ Lx W, Own G' Lx W → Own G (ch :: Lx) W) (h : TK K N e G (ch :: L)) : TK K N e G' L := fun a W hF hO => h a W hF (hr L W hO)
theorem TC.back {G' : Gd} {ch : Ch} (hr : ∀ Lx W, Own G' Lx W → Own G (ch :: Lx) W) (h : TC P r Q N c e G (ch :: L)) : TC P r Q N c e G' L := fun a W hF hO => h a W hF (hr L W hO)
theorem TQ.back {X : Exit} {G' : Gd} {ch : Ch} (hr : ∀ Lx W, Own G' Lx W → Own G (ch :: Lx) W) (h : TQ Q X N e G (ch :: L)) : TQ Q X N e G' L := fun a W hF hO => h a W hF (hr L W hO)
theorem Rd.row {α : Type} {k : Kd α} {el : Nat} {A : Option Addr} {n cp : Nat} {xs : List α} {G' : Gd} {B : Nat} (h : ∀ W, G'.ok W → ∃ F, (Row k el (.slice A n cp) xs).holds B W F) : Rd G' k A xs := fun W hW => by
  obtain ⟨F, hF⟩ := h W hW
  obtain ⟨A', c', he, _, hC⟩ := Kd.R_reads hF
  injection he with h1 _ _
  rw [h1]; exact hC
/-- Any part turned, in thought alone. -/
theorem TK.conv {ch ch' : Ch} (hc : ∀ B W F, ch.holds B W F → ch'.holds B W F) (h : TK K N e G (ch' :: L)) : TK K N e G (ch :: L) := fun a W hF hO => h a W hF (hO.conv (fun F hh => hc _ W F hh))
theorem TK.two {c1 c2 ch : Ch} (hc : ∀ B W (F1 F2 : Nat → Prop), (∀ k, F1 k → ¬ F2 k) → c1.holds B W F1 → c2.holds B W F2 → ch.holds B W (fun k => F1 k ∨ F2 k)) (h : TK K N e G (ch :: L)) : TK K N e G (c1 :: c2 :: L) := fun a W hF hO => h a W hF (hO.two (fun F1 F2 hd h1 h2 => hc _ W F1 F2 hd h1 h2))
theorem Own.chg {c ch : Ch} {W : World} (hc : ∀ B W F, c.holds B W F → ch.holds B W F) (h : Own G (c :: L) W) : Own G (ch :: L) W := by
  obtain ⟨ok, B, os, tape, out, fp, a, b, d⟩ := h
  refine ⟨ok, B, os, tape, out, fp, fun i x hi => ?_, b, d⟩
  cases i with
  | zero => obtain rfl := Option.some.inj hi; exact hc _ _ _ (a 0 _ rfl)
  | succ i => exact a (i + 1) x hi
theorem TK.chg {c ch : Ch} (hc : ∀ B W F, c.holds B W F → ch.holds B W F) (h : TK K N e G (ch :: L)) : TK K N e G (c :: L) := fun a W hF hO => h a W hF (hO.chg hc)
theorem TK.new {ch : Ch} (hc : ∀ B W, ch.holds B W (fun _ => False)) (h : TK K N e G (ch :: L)) : TK K N e G L := fun a W hF hO => h a W hF (hO.add (Below.refl _ W) (ch.wide (fun _ hk => hk.elim) (hc _ W)))
theorem TC.new {ch : Ch} (hc : ∀ B W, ch.holds B W (fun _ => False)) (h : TC P r Q N c e G (ch :: L)) : TC P r Q N c e G L := fun a W hF hO => h a W hF (hO.add (Below.refl _ W) (ch.wide (fun _ hk => hk.elim) (hc _ W)))
theorem Own.nilRow {α : Type} (k : Kd α) (el : Nat) {W : World} (h : Own G L W) : Own G (Row k el (.slice none 0 0) [] :: L) W := h.add (Below.refl _ W) (Kd.R_nil k el W _ _)
theorem TQ.nilRow {α : Type} (k : Kd α) (el : Nat) {X : Exit} (h : TQ Q X N e G (Row k el (.slice none 0 0) [] :: L)) : TQ Q X N e G L := fun a W hF hO => h a W hF (hO.nilRow k el)
theorem TC.tail (J : Act → World → Prop) (hJ : ∀ a W, J a W → Q .normal a W) (h : TC P r (Exit.then J Q) N c e G L) : TC P r Q N c e G L := fun a W hF hO => wpIn_mono (h a W hF hO) (fun x a' W' hq => by cases x <;> first | exact hJ _ _ hq | exact hq)
theorem TQ.use {X : Exit} {a : Act} {W : World} (h : TQ Q X N e G L) (hF : Fr N a e) (hO : Own G L W) : Q X a W := h a W hF hO
theorem TC.use {a : Act} {W : World} (h : TC P r Q N c e G L) (hF : Fr N a e) (hO : Own G L W) : c.wpIn (Fw r) 0 P Q a W := h a W hF hO
theorem Row.le {α : Type} {k : Kd α} {el : Nat} {A : Option Addr} {n cp : Nat} {xs : List α} {G' : Gd} {B : Nat} (h : ∀ W, G'.ok W → ∃ F, (Row k el (.slice A n cp) xs).holds B W F) : xs.length ≤ cp := by
  obtain ⟨F, hF⟩ := h G'.W0 G'.self
  obtain ⟨A', c', he, hl, _⟩ := Kd.R_reads hF
  injection he with _ _ h3
  omega
theorem Row.nil {α : Type} (k : Kd α) (el B : Nat) (W : World) : (Row k el (.slice none 0 0) []).holds B W (fun _ => False) := Kd.R_nil k el W B _
/-- An element whose cells lead nowhere. -/
theorem El.of {α : Type} {k : Kd α} {xv : α} {cs : List Value} (h : ∀ W B, k.M W B (fun _ => False) xv cs) (B : Nat) (W : World) : (El k xv cs).holds B W (fun _ => False) := h W B
/-! ### Rows that are read -/
theorem Rd.at {α : Type} {k : Kd α} {A : Option Addr} {xs : List α} {i : Int} {xv : α} (h : Rd G k A xs) (hx : at? xs i = some xv) :
    ∃ ad cs, A = some ad ∧ 0 ≤ i ∧ i < (xs.length : Int) ∧ (∀ j u, cs[j]? = some u → Cl G (ad.add (i.toNat * k.sz + j)) u) ∧ RdK G k xv cs := by
  unfold at? at hx
  by_cases h0 : 0 ≤ i
  · rw [if_pos h0] at hx
    obtain ⟨hlt, hxe⟩ := List.getElem?_eq_some_iff.1 hx
    obtain ⟨ad, cs, hA, hc, hK⟩ := h.get xv i h0 (by omega)
    rw [List.getD_eq_getElem?_getD, hx] at hK
    exact ⟨ad, cs, hA, h0, by omega, hc, hK⟩
  · rw [if_neg h0] at hx; cases hx
theorem RdK.int {ik : IntKind} {i : Int} {cs : List Value} (h : RdK G (Kd.int ik) i cs) : cs = [.int ik i] := h G.W0 G.self
theorem RdK.bool {b : Bool} {cs : List Value} (h : RdK G Kd.bool b cs) : cs = [.bool b] := h G.W0 G.self
theorem RdK.string {s : ByteArray} {cs : List Value} (h : RdK G Kd.string s cs) : cs = [.string s] := h G.W0 G.self
theorem RdK.slice {α : Type} {k : Kd α} {el : Nat} {xs : List α} {cs : List Value} (h : RdK G (Kd.slice el k) xs cs) : ∃ A c, cs = [.slice A xs.length c] ∧ xs.length ≤ c ∧ Rd G k A xs := by
  obtain ⟨A, c, rfl, hl, _⟩ := h G.W0 G.self
  refine ⟨A, c, rfl, hl, fun W hW => ?_⟩
  obtain ⟨A', c', he, _, hC⟩ := h W hW
  injection he with he _
  injection he with h1 _ _
  rw [h1]; exact hC
/-- Part of an element. -/
theorem Cl.sub {ad : Addr} {m off n : Nat} {cs cs' : List Value} (h : ∀ j u, cs[j]? = some u → Cl G (ad.add (m + j)) u) (hc : (cs.drop off).take n = cs') : ∀ j v, cs'[j]? = some v → Cl G ((ad.add (m + off)).add j) v := fun j v hj => by
  subst hc
  rw [add_add, Nat.add_assoc]
  refine h (off + j) v ?_
  have hlt := (List.getElem?_eq_some_iff.1 hj).1
  rw [List.length_take] at hlt
  rw [List.getElem?_take_of_lt (by omega), List.getElem?_drop] at hj
  exact hj
theorem Val.len {t el n cp : Nat} {A : Option Addr} (ht : P.underlying t = some (.slice el)) (hx : ev e x = some (.slice A n cp)) : Val P N e G L ⟨some d, .call ⟨.builtin .len, #[x], #[t]⟩, ty, pos, af, g⟩ (.int .i64 n) := fun a W hF hO => by simp [execOp, resolve, hF.ev hx, invoke, builtin, Builtin.len_, underlying, ht, goInt]
theorem Val.lenS {t : Nat} {s : ByteArray} (ht : P.underlying t = some .string) (hx : ev e x = some (.string s)) : Val P N e G L ⟨some d, .call ⟨.builtin .len, #[x], #[t]⟩, ty, pos, af, g⟩ (.int .i64 s.size) := fun a W hF hO => by simp [execOp, resolve, hF.ev hx, invoke, builtin, Builtin.len_, underlying, ht, goInt]
theorem Val.indexAddr {t el n cp sz : Nat} {A : Option Addr} {ad : Addr} {i : Int} {kk : IntKind} (ht : P.underlying t = some (.slice el)) (hs : (P.info? el).map (·.size) = some sz) (hx : ev e x = some (.slice A n cp)) (hA : A = some ad)
    (hy : ev e y = some (.int kk i)) (h0 : 0 ≤ i) (h1 : i < n) : Val P N e G L ⟨some d, .indexAddr t x y, ty, pos, af, g⟩ (.pointer (some (ad.add (i.toNat * sz)))) := fun a W hF hO => by
    obtain ⟨ii, hi, hs'⟩ := Option.map_eq_some_iff.1 hs
    subst hA
    simp [execOp, hF.ev hx, hF.ev hy, Instr.indexAt, asIntOf, underlying, ht, h0, h1, sizeOf, typeInfo, hi, hs']
/-- The place of a field of an element. -/
theorem add_add' (a : Addr) (m n : Nat) : (a.add m).add n = a.add (m + n) := add_add a m n
theorem Val.fieldAddrE {T f : Nat} {p : Addr} {fs : Array Field} {fd : Field} {m off i : Nat} (hT : P.underlying T = some (.struct fs)) (hf : fs[f]? = some fd) (hs : (P.info? fd.type).map (·.size) = some (m + 1)) (ho : fd.offset = off) (hx : ev e x = some (.pointer (some (p.add i)))) : Val P N e G L ⟨some d, .fieldAddr T x f, ty, pos, af, g⟩ (.pointer (some (p.add (i + off)))) := by rw [← add_add']; exact Val.fieldAddr hT hf hs ho hx
theorem Val.fieldAddrB {T f b j : Nat} {fs : Array Field} {fd : Field} {m off i : Nat} (hT : P.underlying T = some (.struct fs)) (hf : fs[f]? = some fd) (hs : (P.info? fd.type).map (·.size) = some (m + 1)) (ho : fd.offset = off) (hx : ev e x = some (.pointer (some ⟨b, i, none⟩))) (hj : i + off = j) : Val P N e G L ⟨some d, .fieldAddr T x f, ty, pos, af, g⟩ (.pointer (some ⟨b, j, none⟩)) := by have h := Val.fieldAddr (G := G) (L := L) (N := N) (d := d) (ty := ty) (pos := pos) (af := af) (g := g) hT hf hs ho hx; rwa [add_blk, hj] at h
/-! ### Rows that are made -/
theorem TL.buildSlice {t el sz n : Nat} {parts : Array (Nat × Operand)} {xs : List Operand} {vs cs : List Value} {z : Value} (hw : Wt ops e ⟨some d, .buildSlice t n parts, ty, pos, af, g⟩ = some true) (hd : Nat.blt d N.n = true) (ht : P.underlying t = some (.slice el)) (hs : (P.info? el).map (fun i => (i.zero, i.size)) = some (some z, sz + 1)) (hz : z.cells.size = sz + 1) (hp : parts.toList = (xs.zipIdx 0).map fun x => (x.2, x.1)) (hx : evs e xs = some vs) (hn : vs.length = n) (hn0 : Nat.blt 0 n = true) (hm : Nat.ble (n * (sz + 1)) 16777216 = true) (h1 : vs.all (fun v => v.cells.size == sz + 1) = true) (hc : (vs.flatMap fun v => v.cells.toList) = cs)
    (k : ∀ b, TK K N ((d, .slice (some ⟨b, 0, none⟩) n n) :: e) G (Blk b cs el :: L)) : TO P r ops Q K N ⟨some d, .buildSlice t n parts, ty, pos, af, g⟩ e G L := fun a W hF hO => by
  obtain ⟨ie, hi, hzz⟩ := Option.map_eq_some_iff.1 hs
  simp only [Prod.mk.injEq] at hzz
  obtain ⟨hz1, hz2⟩ := hzz
  have hn0 : 0 < n := by simpa using hn0
  have hm : n * (sz + 1) ≤ 16777216 := by simpa using hm
  have hpos : 0 < n * (sz + 1) := Nat.mul_pos hn0 (by omega)
  have hev := hF.evs hx
  have hparts : (parts.map fun (i, x) => (i, a.eval x)).toList = (vs.zipIdx 0).map fun x => (x.2, x.1) := by
    rw [Array.toList_map, hp, ← hev, List.zipIdx_map, List.map_map, List.map_map]; rfl
  have hfill := Great.fill_whole (s := ie.size) (by omega) vs ((Array.range (n * ie.size)).map (z.cells[· % z.cells.size]!)) (fun v hv => by rw [hz2]; simpa using (List.all_eq_true.1 h1) v hv) (by simp [hn])
  rw [hc, ← hparts] at hfill
  have hr := run_buildSlice (P := P) W t el n (parts.map fun (i, x) => (i, a.eval x)) cs.toArray ie z ht hi hz1 (by rw [hz2]; omega) (by rw [hz2]; omega) hfill
  refine step_value (v := .slice (some ⟨W.heap.size, 0, none⟩) n n) (W' := W.alloc (.cells cs.toArray el)) (Wt.of hw hF) (by simp) (by simp [execOp, hr]) (k W.heap.size _ _ (hF.put hd _) (hO.add ((Below.refl _ W).alloc (Nat.le_refl _) _) ⟨Nat.le_refl _, hO.B, blk_new W _⟩))
theorem TL.append {α : Type} (k : Kd α) {t el bytes b cp : Nat} {z : Value} {A : Option Addr} {xs : List α} {xv : α} {cs : List Value} (hw : Wt ops e ⟨some d, .call ⟨.builtin .append, #[x, y], #[t, t]⟩, ty, pos, af, g⟩ = some true) (hd : Nat.blt d N.n = true)
    (ht : P.underlying t = some (.slice el)) (hinfo : (P.info? el).map (fun i => (i.zero, i.size, i.bytes)) = some (some z, k.sz, bytes)) (hz : z.cells.size = k.sz) (hs0 : 0 < k.sz) (hb0 : 0 < bytes) (hx : ev e x = some (.slice A xs.length cp)) (hy : ev e y = some (.slice (some ⟨b, 0, none⟩) 1 1)) (hl : (xs.length + 1) * bytes ≤ 140737488355328)
    (kk : ∀ A' c', TK K N ((d, .slice A' (xs ++ [xv]).length c') :: e) G (Row k el (.slice A' (xs ++ [xv]).length c') (xs ++ [xv]) :: L)) :
    TO P r ops Q K N ⟨some d, .call ⟨.builtin .append, #[x, y], #[t, t]⟩, ty, pos, af, g⟩ e G (Row k el (.slice A xs.length cp) xs :: El k xv cs :: Blk b cs el :: L) := fun a W hF hO => by
  obtain ⟨i0, hi, hzz⟩ := Option.map_eq_some_iff.1 hinfo
  simp only [Prod.mk.injEq] at hzz
  obtain ⟨hz0, hz1, hz2⟩ := hzz
  have hblk := hO.blk (i := 2) rfl
  have hlen : xs.length + 1 ≤ 140737488355328 := Nat.le_trans (Nat.le_mul_of_pos_right _ hb0) hl
  obtain ⟨v, W', hr, hO'⟩ := hO.ex (β := Value) (c' := fun v => Row k el v (xs ++ [xv])) (R := fun v W' => (Builtin.append_ #[t, t] ty #[.slice A xs.length cp, .slice (some ⟨b, 0, none⟩) 1 1]).run P W = .ok v W') (fun F1 F2 hdj h1 h2 hB => by
    obtain ⟨g0, inner, hown, hre⟩ := h1
    have hcs := k.K_len (k.K_of_M h2)
    obtain ⟨v', w', hr, q1, q2, _, q3⟩ := run_append_own_at (P := P) W G.B t ty el i0 z k.sz bytes ht hi hz0 hz1 hz2 hz hs0 _ xs.length inner hown ⟨b, 0, none⟩ 1 1 cs (by rw [hcs, Nat.one_mul])
      (fun j u hj => by rw [add_blk, blk_cell hblk]; simpa using hj) (k.K_one (k.K_of_M h2)) (by unfold maxLen; omega) hl hB
    have hat : v'.ownBlock = (Value.slice A xs.length cp).ownBlock ∨ ∃ q, v'.ownBlock = some q ∧ W.heap.size ≤ q := q3.imp id (fun h => ⟨_, h, Nat.le_refl _⟩)
    refine ⟨v', w', hr, q2.os, q2.tape, q2.output, q2.size, Kd.R_appended (ok := fun k => F1 k ∨ F2 k ∨ W.heap.size ≤ k) (okp := F2) (fun j hj => .inl (g0 j hj)) (hre.imp_ (fun _ _ hp => k.M_mono (fun j hj => ⟨.inl hj.1, hj.2⟩) hp)) h2 (fun j hj => ⟨.inr (.inl hj), fun he => hdj j (g0 j he.symm) hj⟩) (fun j hj => .inr (.inr hj)) q1 q2 hat, fun j hj hn1 _ => q2.block j hj (fun he => hn1 (g0 j he.symm))⟩)
  obtain ⟨A', c', rfl⟩ : ∃ A' c', v = .slice A' (xs ++ [xv]).length c' := by
    obtain ⟨ok, B, os, tape, out, fp, ha, _⟩ := hO'
    exact Kd.R_slice (ha 0 _ rfl)
  refine step_value (v := .slice A' (xs ++ [xv]).length c') (W' := W') (Wt.of hw hF) (by simp) (by simp [execOp, resolve, hF.ev hx, hF.ev hy, invoke, builtin, hr]) (kk A' c' _ _ (hF.put hd _) (hO'.selT (Ls := [_]) [0] 2 rfl rfl rfl))
end
end Go.Proofs.Ythlhmoocgjddpaa.Sy
set_option linter.unusedVariables false
set_option linter.unusedSimpArgs false
namespace Go.Proofs.Ythlhmoocgjddpaa.Sy
open Go Go.RowKit Go.Proofs.YthlhmoocgjddpaaW.PrintWords
section
variable {P : Program} {r : Option Nat} {ops : Array Oper} {Q : Exit → Act → World → Prop} {S : World → Prop} {sk : List Nat} {n : Nat}
/-- Whatever comes next; behind all but operation sk the worlds' condition S holds. -/
def AnyX (P : Program) (r : Option Nat) (ops : Array Oper) (Q : Exit → Act → World → Prop) (S : World → Prop) (sk : List Nat) : Nat → Array Bool → Act → World → Prop
  | 0, l, a, w => Region.ready .any ops l = [] ∧ Q .normal a w
  | f + 1, l, a, w => (Region.ready .any ops l = [] → Q .normal a w) ∧ ∀ i ∈ Region.ready .any ops l, wpOpIn (Fw r) 0 P ops Q i (fun a' w' => (sk.contains i = false → S w') ∧ AnyX P r ops Q S sk f (l.setIfInBounds i true) a' w') a w
theorem AnyX.any : ∀ (f : Nat) (l : Array Bool) (a : Act) (w : World), AnyX P r ops Q S sk f l a w → wpAnyIn (Fw r) 0 P .any ops Q f l a w
  | 0, _, _, _, h => h
  | f + 1, _, _, _, h => ⟨h.1, fun i hi => wpOpIn_mono (fun a' w' h' => AnyX.any f _ a' w' h'.2) (h.2 i hi)⟩
/-- What a panic leaves does not hang on slots. -/
def PQ (Q : Exit → Act → World → Prop) : Prop := ∀ c a w d v, Q (.panic c) (Act.put a d v) w → Q (.panic c) a w
theorem PQ.then_ {K : Act → World → Prop} (h : PQ Q) : PQ (Exit.then K Q) := fun c a w d v hq => h c a w d v hq
theorem PQ.inB {i : Nat} (h : PQ Q) : PQ (Exit.inBlock i Q) := fun c a w d v hq => h c a w d v hq
theorem PQ.body {fn : Func} {R : Ending → World → Prop} : PQ (BP P fn R) := fun c a w d v hq => hq.elim
/-- An operation that does not touch what another one yields. -/
theorem op_apart {i j : Nat} {oi oj : Oper} {v : Value} (hj : ops[j]? = some oj) (hnj : isDefer oj.op = false) (hap : oi.apart ops oj = true) (hsi : ∀ cs b, oi.op ≠ .select cs b) (hsj : ∀ cs b, oj.op ≠ .select cs b) (hQ : PQ Q) {K : Act → World → Prop} {a : Act} {w : World}
    (hy : YieldsIf P ops S oi v a) (h : wpOpIn (Fw r) 0 P ops Q j K (a.put oi.dst v) w) : wpOpIn (Fw r) 0 P ops Q j (fun a' w' => YieldsIf P ops S oi v a' ∧ K (a'.put oi.dst v) w') a w := by
  obtain ⟨h1, h2, h3⟩ := Oper.apart_spec hap
  have stays : ∀ (b : Act), YieldsIf P ops S oi v b → ∀ u, YieldsIf P ops S oi v (b.put oj.dst u) := fun b hb u => hb.of_same (execOp_put oi hsi b oj.dst u h3) (wanted_put oi b oj.dst u h3)
  unfold wpOpIn at *
  simp only [hj] at *
  rw [wanted_put oj a oi.dst v h1] at h
  by_cases hw : Region.wanted oj (yielded ops a.tmps) = true
  · rw [if_pos hw] at h ⊢
    refine ⟨fun _ _ => trivial, ?_⟩
    have hh := h.2
    have hdj : ∀ c, oj.op ≠ .defer c := fun c hc => by rw [hc] at hnj; cases hnj
    have e1 : Oper.semAt (Fw r).round (a.put oi.dst v).eval oj = execOp (a.put oi.dst v).eval oj := semAt_eq hdj
    have e2 : Oper.semAt (Fw r).round a.eval oj = execOp a.eval oj := semAt_eq hdj
    rw [e1, execOp_put oj hsj a oi.dst v h1] at hh
    rw [e2]
    generalize (execOp a.eval oj).run P w = res at *
    cases res with
    | ok nx w' =>
      cases nx <;> simp only [Oper.uponIn] at hh ⊢
      case value u => exact ⟨stays a hy u, by rw [← Act.put_comm a v u h2]; exact hh⟩
      case skip => exact ⟨stays a hy _, by rw [← Act.put_comm a v undef h2]; exact hh⟩
      case defer dd =>
        refine ⟨stays { a with defers := dd :: a.defers } (hy.of_same rfl rfl) _, ?_⟩
        rw [← Act.put_comm _ v undef h2, ← Act.put_defers]
        exact hh
      case enter f args =>
        refine ⟨hh.1, hh.2.mono fun en w2 he => ?_⟩
        cases en with
        | returned u => exact ⟨stays a hy u, by rw [← Act.put_comm a v u h2]; exact he⟩
        | panicked c => exact hQ _ _ _ _ _ he
        | outgrown => exact he
      case row row args => exact ⟨hh.1, hh.2.mono fun u w2 he => ⟨stays a hy u, by rw [← Act.put_comm a v u h2]; exact he⟩⟩
      case round l f tmps as_ bd =>
        refine ⟨hh.1, hh.2.mono fun en w2 he => ?_⟩
        cases en with
        | returned u => exact ⟨stays a hy u, by rw [← Act.put_comm a v u h2]; exact he⟩
        | panicked c => exact hQ _ _ _ _ _ he
        | outgrown => exact he
    | halt x w' =>
      cases x <;> simp only [Oper.uponIn] at hh ⊢
      case panic u => exact hQ _ _ _ _ _ hh
  · rw [if_neg hw] at h ⊢
    exact ⟨fun _ _ => trivial, stays a hy _, by rw [← Act.put_comm a v undef h2]; exact h.2⟩
theorem yields_step {i : Nat} {oi : Oper} {v : Value} (hi : ops[i]? = some oi) (hnd : isDefer oi.op = false) {a : Act} {w : World} (hy : YieldsIf P ops S oi v a) (hS : S w) {K : Act → World → Prop} (h : K (a.put oi.dst v) w) : wpOpIn (Fw r) 0 P ops Q i K a w := by
  unfold wpOpIn
  simp only [hi]
  rcases hy with ⟨hw, hv⟩ | ⟨hw, rfl⟩
  · rw [if_pos hw]
    refine ⟨fun _ _ => trivial, ?_⟩
    have e2 : Oper.semAt (Fw r).round a.eval oi = execOp a.eval oi := semAt_eq (fun c hc => by rw [hc] at hnd; cases hnd)
    rw [e2, hv w hS]
    exact h
  · rw [if_neg (by rw [hw]; decide)]
    exact ⟨fun _ _ => trivial, h⟩
/-- What is done waits for nothing. -/
def Closed (ops : Array Oper) (l : Array Bool) : Prop := ∀ (m : Nat) (o : Oper), ops[m]? = some o → l.getD m false = true → ∀ e ∈ o.after, Region.binds .any e = true → l.getD e.on false = true
theorem Closed.step {l : Array Bool} {j : Nat} (hc : Closed ops l) (hj : j ∈ Region.ready .any ops l) : Closed ops (l.setIfInBounds j true) := fun m o hm hl e he hb => by
  have mono : ∀ q, l.getD q false = true → (l.setIfInBounds j true).getD q false = true := fun q hq => by
    simp only [Array.getD_eq_getD_getElem?, Array.getElem?_setIfInBounds] at hq ⊢
    split
    · subst_vars
      split
      · rfl
      · rename_i h1; rw [Array.getElem?_eq_none (by omega)] at hq; cases hq
    · exact hq
  by_cases hmj : j = m
  · subst hmj
    obtain ⟨_, o', ho', hall⟩ := mem_ready.1 hj
    obtain rfl := Option.some.inj (hm.symm.trans ho')
    exact mono _ (hall e he hb)
  · refine mono _ (hc m o hm ?_ e he hb)
    simp only [Array.getD_eq_getD_getElem?, Array.getElem?_setIfInBounds] at hl ⊢
    rwa [if_neg hmj] at hl
theorem AnyX.first {i : Nat} {oi : Oper} {v : Value} (hi : ops[i]? = some oi) (hna : ∀ (j : Nat) (o : Oper), ops[j]? = some o → isDefer o.op = false) (hsel : ∀ (j : Nat) (o : Oper) cs b, ops[j]? = some o → o.op ≠ .select cs b) (hQ : PQ Q) (hsk : ∀ l : Array Bool, Closed ops l → i ∈ Region.ready .any ops l → ∀ j, sk.contains j = true → j ∉ Region.ready .any ops l) :
    ∀ (f : Nat) (l : Array Bool) (a : Act) (w : World), Closed ops l → (∀ j oj, ops[j]? = some oj → j ≠ i → l.getD j true = false → (∀ e ∈ oj.after, Region.binds .any e = true → e.on ≠ i) → oi.apart ops oj = true) →
      i ∈ Region.ready .any ops l → YieldsIf P ops S oi v a → S w → AnyX P r ops Q S sk f (l.setIfInBounds i true) (a.put oi.dst v) w → AnyX P r ops Q S sk (f + 1) l a w := by
  intro f
  induction f with
  | zero =>
    intro l a w _ _ hr hy hS H
    refine ⟨fun h => (by rw [h] at hr; cases hr), fun j hj => ?_⟩
    by_cases e : j = i
    · subst e; exact yields_step hi (hna _ oi hi) hy hS ⟨fun _ => hS, H⟩
    · have := ready_mono hj e
      rw [H.1] at this
      cases this
  | succ f ih =>
    intro l a w hcl hfree hr hy hS H
    refine ⟨fun h => (by rw [h] at hr; cases hr), fun j hj => ?_⟩
    by_cases e : j = i
    · subst e; exact yields_step hi (hna _ oi hi) hy hS ⟨fun _ => hS, H⟩
    · have hjk : sk.contains j = false := Bool.eq_false_iff.2 (fun h => hsk l hcl hr j h hj)
      have h1 := H.2 j (ready_mono hj e)
      obtain ⟨hju, oj, hoj, hall⟩ := mem_ready.1 hj
      have hno : ∀ x ∈ oj.after, Region.binds .any x = true → x.on ≠ i := fun x hx hb hq => by
        have h1 := hall x hx hb
        have h0 := (mem_ready.1 hr).1
        rw [hq] at h1
        rcases Nat.lt_or_ge i l.size with h' | h'
        · simp [h'] at h0 h1; rw [h0] at h1; cases h1
        · simp [Array.getElem?_eq_none h'] at h1
      have h2 := op_apart (i := i) hoj (hna j oj hoj) (hfree j oj hoj e hju hno) (fun cs b => hsel i oi cs b hi) (fun cs b => hsel j oj cs b hoj) hQ hy h1
      refine wpOpIn_mono (fun a' w' h3 => ⟨fun _ => h3.2.1 hjk, ih (l.setIfInBounds j true) a' w' (hcl.step hj) (fun k ok hk hki hun hn => ?_) (ready_mono hr (Ne.symm e)) h3.1 (h3.2.1 hjk) ?_⟩) h2
      · refine hfree k ok hk hki ?_ hn
        by_cases hjk2 : j = k
        · subst hjk2; exact hju
        · rw [getD_set_ne true hjk2] at hun; exact hun
      · rw [Array.setIfInBounds_comm _ _ e]
        exact h3.2.2
/-! ### What a region's operations wait for, as_ sets of bits -/
def msk (acc : List Nat) (o : Oper) : Nat := o.after.toList.foldl (fun m e => if Region.binds .any e then m ||| 2 ^ e.on ||| acc.getD e.on 0 else m) 0
def ancs : List Oper → List Nat → List Nat
  | [], acc => acc
  | o :: os, acc => ancs os (acc ++ [msk acc o])
theorem msk_bit {acc : List Nat} {j : Nat} : ∀ (es : List Edge) (m : Nat), (es.foldl (fun m e => if Region.binds .any e then m ||| 2 ^ e.on ||| acc.getD e.on 0 else m) m).testBit j = true → m.testBit j = true ∨ ∃ e ∈ es, Region.binds .any e = true ∧ (e.on = j ∨ (acc.getD e.on 0).testBit j = true)
  | [], m, h => .inl h
  | e :: es, m, h => by
    rw [List.foldl_cons] at h
    rcases msk_bit es _ h with h1 | ⟨x, hx, hb⟩
    · by_cases hb : Region.binds .any e = true
      · rw [if_pos hb] at h1
        simp only [Nat.testBit_or, Bool.or_eq_true, Nat.testBit_two_pow, decide_eq_true_eq] at h1
        rcases h1 with (h1 | h1) | h1
        · exact .inl h1
        · exact .inr ⟨e, by simp, hb, .inl h1⟩
        · exact .inr ⟨e, by simp, hb, .inr h1⟩
      · rw [if_neg hb] at h1; exact .inl h1
    · exact .inr ⟨x, by simp [hx], hb⟩
/-- What a bit says: in what is closed, with an operation's own needs done, that one is done. -/
def Bits (ops : Array Oper) (acc : List Nat) : Prop := ∀ (m : Nat) (o : Oper), m < acc.length → ops[m]? = some o → ∀ j, (acc.getD m 0).testBit j = true → ∀ l : Array Bool, Closed ops l → (∀ e ∈ o.after, Region.binds .any e = true → l.getD e.on false = true) → l.getD j false = true
theorem done_bit {acc : List Nat} (hB : Bits ops acc) {k j : Nat} (hk : (acc.getD k 0).testBit j = true) {l : Array Bool} (hc : Closed ops l) (hd : l.getD k false = true) (hs : acc.length ≤ ops.size) : l.getD j false = true := by
  rcases Nat.lt_or_ge k acc.length with h | h
  · have hk2 : k < ops.size := by omega
    exact hB k _ h (Array.getElem?_eq_getElem hk2) j hk l hc (hc k _ (Array.getElem?_eq_getElem hk2) hd)
  · rw [List.getD_eq_getElem?_getD, List.getElem?_eq_none h] at hk; simp at hk
theorem ancs_bits : ∀ (os : List Oper) (acc : List Nat), (∀ i o, os[i]? = some o → ops[acc.length + i]? = some o) → acc.length + os.length ≤ ops.size → Bits ops acc → Bits ops (ancs os acc)
  | [], acc, _, _, h => h
  | o :: os, acc, ho, hs, h => by
    refine ancs_bits os _ (fun i o' hi => ?_) (by simp at hs ⊢; omega) ?_
    · have := ho (i + 1) o' (by simpa using hi)
      rw [List.length_append, List.length_cons, List.length_nil, show acc.length + (0 + 1) + i = acc.length + (i + 1) from by omega]
      exact this
    · intro m om hm hom j hj l hc hd
      rcases Nat.lt_or_ge m acc.length with h1 | h1
      · refine h m om h1 hom j ?_ l hc hd
        rwa [List.getD_eq_getElem?_getD, List.getElem?_append_left h1, ← List.getD_eq_getElem?_getD] at hj
      · have hm2 : m = acc.length := by simp at hm; omega
        subst hm2
        have h0 := ho 0 o rfl
        rw [Nat.add_zero] at h0
        obtain rfl := Option.some.inj (hom.symm.trans h0)
        rw [List.getD_eq_getElem?_getD, List.getElem?_append_right (Nat.le_refl _)] at hj
        simp only [Nat.sub_self, List.getElem?_cons_zero, Option.getD_some] at hj
        rcases msk_bit _ _ hj with h2 | ⟨e, he, hb, h2⟩
        · simp at h2
        · have hdone := hd e (by simpa using he) hb
          rcases h2 with rfl | h2
          · exact hdone
          · exact done_bit h h2 hc hdone (by simp at hs; omega)
/-- A region, looked at once: which operations may be taken first. -/
structure ROK (ops : Array Oper) (sk vs : List Nat) : Prop where
  nd : ∀ (j : Nat) (o : Oper), ops[j]? = some o → isDefer o.op = false
  ns : ∀ (j : Nat) (o : Oper) cs b, ops[j]? = some o → o.op ≠ .select cs b
  ap : ∀ i ∈ vs, ∀ oi, ops[i]? = some oi → ∀ l : Array Bool, l.size = ops.size → Closed ops l → i ∈ Region.ready .any ops l → ∀ j oj, ops[j]? = some oj → j ≠ i → l.getD j true = false → (∀ e ∈ oj.after, Region.binds .any e = true → e.on ≠ i) → oi.apart ops oj = true
  wt : ∀ i ∈ vs, ∀ l : Array Bool, Closed ops l → i ∈ Region.ready .any ops l → ∀ j, sk.contains j = true → j ∉ Region.ready .any ops l
def rokB (ops : Array Oper) (sk vs : List Nat) : Bool :=
  let A := ancs ops.toList []
  ops.all (fun o => !isDefer o.op) && Region.noSelect ops && vs.all fun i => (sk.all fun s => (A.getD s 0).testBit i) && ((List.range ops.size).all fun j => j == i || (A.getD i 0).testBit j || match ops[i]?, ops[j]? with
    | some oi, some oj => oj.after.any (fun e => Region.binds .any e && e.on == i) || oi.apart ops oj
    | _, _ => true)
theorem noDefer_spec {ops : Array Oper} (h : ops.all (fun o => !isDefer o.op) = true) (j : Nat) (o : Oper) (ho : ops[j]? = some o) : isDefer o.op = false := by
  obtain ⟨hj, rfl⟩ := Array.getElem?_eq_some_iff.1 ho
  have := (Array.all_eq_true.1 h) j hj
  simpa using this
theorem ready_undone {i : Nat} {l : Array Bool} (hi : i ∈ Region.ready .any ops l) : l.getD i true = false := (mem_ready.1 hi).1
theorem undone_false {i : Nat} {l : Array Bool} (hi : l.getD i true = false) : l.getD i false = false := by
  rcases Nat.lt_or_ge i l.size with h' | h'
  · simp [h'] at hi ⊢; exact hi
  · simp [Array.getElem?_eq_none h']
theorem rok {ops : Array Oper} {sk vs : List Nat} (h : rokB ops sk vs = true) : ROK ops sk vs := by
  unfold rokB at h
  simp only [Bool.and_eq_true] at h
  obtain ⟨⟨h1, h2⟩, h3⟩ := h
  have hB : Bits ops (ancs ops.toList []) := ancs_bits ops.toList [] (fun i o hi => by simpa using hi) (by simp) (fun m o hm => by simp at hm)
  have anc_len : ∀ (os : List Oper) (acc : List Nat), (ancs os acc).length = acc.length + os.length := by
    intro os
    induction os with
    | nil => intro acc; rfl
    | cons o os ih => intro acc; rw [ancs, ih]; simp; omega
  have hlen : (ancs ops.toList []).length = ops.size := by rw [anc_len]; simp
  have anc_done : ∀ (i j : Nat) (l : Array Bool), ((ancs ops.toList []).getD i 0).testBit j = true → Closed ops l → i ∈ Region.ready .any ops l → l.getD j false = true := fun i j l hb hc hr => by
    obtain ⟨_, o, ho, hall⟩ := mem_ready.1 hr
    have hlt := (Array.getElem?_eq_some_iff.1 ho).1
    exact hB i o (by omega) ho j hb l hc hall
  refine ⟨noDefer_spec h1, Region.noSelect_spec h2, fun i hi oi hoi l hsz hc hr j oj hoj hji hun hno => ?_, fun i hi l hc hr j hj hrj => ?_⟩
  · have h4 := (List.all_eq_true.1 h3) i hi
    obtain ⟨_, h4⟩ := (Bool.and_eq_true _ _).mp h4
    have hlt := (Array.getElem?_eq_some_iff.1 hoj).1
    have h5 := (List.all_eq_true.1 h4) j (List.mem_range.2 hlt)
    simp only [hoi, hoj, Bool.or_eq_true, beq_iff_eq] at h5
    rcases h5 with (h5 | h5) | (h5 | h5)
    · exact absurd h5 hji
    · have := anc_done i j l h5 hc hr
      rw [undone_false hun] at this; cases this
    · obtain ⟨e, he, hb⟩ := Array.any_eq_true'.1 h5
      obtain ⟨hb1, hb2⟩ := (Bool.and_eq_true _ _).mp hb
      exact absurd (eq_of_beq hb2) (hno e he hb1)
    · exact h5
  · have h4 := (List.all_eq_true.1 h3) i hi
    obtain ⟨h4, _⟩ := (Bool.and_eq_true _ _).mp h4
    have h5 := (List.all_eq_true.1 h4) j (by simpa using hj)
    have := anc_done j i l h5 hc hrj
    rw [undone_false (ready_undone hr)] at this; cases this
/-- Is an operation the next that may come? -/
def rdyB (ops : Array Oper) (l : List Bool) (i : Nat) : Bool := match ops[i]? with
  | some o => !(l.getD i true) && o.after.all fun e => !Region.binds .any e || l.getD e.on false
  | none => false
theorem rdy {ops : Array Oper} {l : List Bool} {i : Nat} (h : rdyB ops l i = true) : i ∈ Region.ready .any ops l.toArray := by
  unfold rdyB at h
  cases ho : ops[i]? with
  | none => rw [ho] at h; cases h
  | some o =>
    rw [ho] at h
    obtain ⟨h1, h2⟩ := (Bool.and_eq_true _ _).mp h
    refine mem_ready.2 ⟨by simpa [List.getD_eq_getElem?_getD] using h1, o, ho, fun e he hb => ?_⟩
    have := (Array.all_eq_true'.1 h2) e he
    rw [hb] at this
    simpa [List.getD_eq_getElem?_getD] using this
/-- Whatever comes next, in what is closed. -/
def AnyC (P : Program) (r : Option Nat) (ops : Array Oper) (Q : Exit → Act → World → Prop) (S : World → Prop) (sk vs : List Nat) (f : Nat) (l : Array Bool) (a : Act) (w : World) : Prop := ROK ops sk vs → l.size = ops.size → Closed ops l → AnyX P r ops Q S sk f l a w
abbrev TA (P : Program) (r : Option Nat) (ops : Array Oper) (Q : Exit → Act → World → Prop) (S : World → Prop) (sk vs : List Nat) (f : Nat) (l : List Bool) (N : Nd) (e : Env) (G : Gd) (L : List Ch) : Prop := TK (AnyC P r ops Q S sk vs f l.toArray) N e G L
variable {N : Nd} {e : Env} {G G0 : Gd} {L L0 : List Ch} {vs : List Nat} {f i : Nat} {l l' : List Bool}
theorem closed0 (n : Nat) : Closed ops (Array.replicate n false) := fun m o hm hl => by
  rcases Nat.lt_or_ge m n with h | h
  · simp [h] at hl
  · rw [Array.getD_eq_getD_getElem?, Array.getElem?_eq_none (by simpa using h)] at hl; cases hl
theorem TC.regionAny {id : Nat} {os : List Oper} (sk vs : List Nat) (hm : P.follows .mixedOrders = true) (hR : rokB os.toArray sk vs = true) (h : TA P r os.toArray Q (Own G L) sk vs os.length (List.replicate os.length false) N e G L) : TC P r Q N (.region id os.toArray true) e G L := fun a W hF hO => by
  refine wpIn_region_any hm (AnyX.any (S := Own G L) (sk := sk) _ _ _ _ ?_)
  have h2 := h a { W with drawn := W.drawn + 1 } hF (hO.heap rfl rfl rfl rfl) (rok hR) (by simp) (by simpa using closed0 (ops := os.toArray) os.length)
  simpa using h2
theorem TA.take (i : Nat) {d : Nat} {op : Op} {ty : TypeId} {pos : String} {af : Array Edge} {g : Option (Nat × Bool)} {v : Value} (hi : ops[i]? = some ⟨some d, op, ty, pos, af, g⟩) (hc : (Nat.blt d N.n && vs.contains i && rdyB ops l i) = true) (hl : l.set i true = l') (hQ : PQ Q)
    (hw : Wt ops e ⟨some d, op, ty, pos, af, g⟩ = some true) (hv : Val P N e G0 L0 ⟨some d, op, ty, pos, af, g⟩ v) (hS : ∀ W, Own G L W → Own G0 L0 W) (k : TA P r ops Q (Own G0 L0) sk vs f l' N ((d, v) :: e) G L) : TA P r ops Q (Own G0 L0) sk vs (f + 1) l N e G L := fun a W hF hO hR hsz hcl => by
  subst hl
  simp only [Bool.and_eq_true] at hc
  obtain ⟨⟨h1, h2⟩, h3⟩ := hc
  have hiv : i ∈ vs := by simpa using h2
  have hrd := rdy h3
  refine AnyX.first hi hR.nd hR.ns hQ (hR.wt i hiv) f _ a W hcl (hR.ap i hiv _ hi _ hsz hcl hrd) hrd (.inl ⟨Wt.of hw hF, fun W' hW' => hv a W' hF hW'⟩) (hS W hO) ?_
  have := k _ W (hF.put h1 v) hO hR (by simpa using hsz) (by simpa using hcl.step hrd)
  simpa using this
theorem TA.not (i : Nat) {d : Nat} {op : Op} {ty : TypeId} {pos : String} {af : Array Edge} {g : Option (Nat × Bool)} (hi : ops[i]? = some ⟨some d, op, ty, pos, af, g⟩) (hc : (Nat.blt d N.n && vs.contains i && rdyB ops l i) = true) (hl : l.set i true = l') (hQ : PQ Q)
    (hw : Wt ops e ⟨some d, op, ty, pos, af, g⟩ = some false) (hS : ∀ W, Own G L W → Own G0 L0 W) (k : TA P r ops Q (Own G0 L0) sk vs f l' N ((d, undef) :: e) G L) : TA P r ops Q (Own G0 L0) sk vs (f + 1) l N e G L := fun a W hF hO hR hsz hcl => by
  subst hl
  simp only [Bool.and_eq_true] at hc
  obtain ⟨⟨h1, h2⟩, h3⟩ := hc
  have hiv : i ∈ vs := by simpa using h2
  have hrd := rdy h3
  refine AnyX.first hi hR.nd hR.ns hQ (hR.wt i hiv) f _ a W hcl (hR.ap i hiv _ hi _ hsz hcl hrd) hrd (.inr ⟨Wt.of hw hF, rfl⟩) (hS W hO) ?_
  have := k _ W (hF.put h1 undef) hO hR (by simpa using hsz) (by simpa using hcl.step hrd)
  simpa using this
/-- The one operation that may come next. -/
theorem wpO_mono {o : Oper} {K K' : Act → World → Prop} {a : Act} {W : World} (h : ∀ a w, K a w → K' a w) (hh : wpO P r ops Q o K a W) : wpO P r ops Q o K' a W := by
  unfold wpO at *
  split
  · rename_i hw; rw [if_pos hw] at hh; exact Oper.wpIn_mono h hh
  · rename_i hw; rw [if_neg hw] at hh; exact ⟨hh.1, h _ _ hh.2⟩
/-- What follows an effect. -/
def AfterE (P : Program) (r : Option Nat) (ops : Array Oper) (Q : Exit → Act → World → Prop) (S : World → Prop) (sk vs : List Nat) (f : Nat) (l : Array Bool) (i : Nat) (a : Act) (w : World) : Prop := (sk.contains i = false → S w) ∧ AnyC P r ops Q S sk vs f l a w
theorem TA.eff (i : Nat) {o : Oper} (hi : ops[i]? = some o) (hr : (Region.ready .any ops l.toArray == [i]) = true) (hl : l.set i true = l') (h : TO P r ops Q (AfterE P r ops Q (Own G0 L0) sk vs f l'.toArray i) N o e G L) : TA P r ops Q (Own G0 L0) sk vs (f + 1) l N e G L := fun a W hF hO hR hsz hcl => by
  subst hl
  have hr := eq_of_beq hr
  refine ⟨fun h0 => (by rw [h0] at hr; cases hr), fun j hj => ?_⟩
  have hj0 := hj
  rw [hr] at hj
  obtain rfl := List.mem_singleton.1 hj
  have := wpO_mono (K' := fun a' w' => (sk.contains j = false → Own G0 L0 w') ∧ AnyX P r ops Q (Own G0 L0) sk f (l.set j true).toArray a' w') (fun a' w' hk => ⟨hk.1, hk.2 hR (by simpa using hsz) (by simpa using hcl.step hj0)⟩) (h a W hF hO)
  unfold wpOpIn
  simp only [hi]
  have e1 : l.toArray.setIfInBounds j true = (l.set j true).toArray := by simp
  rw [e1]
  exact this
/-- Each of the operations that may come next. -/
def Effs (P : Program) (r : Option Nat) (ops : Array Oper) (Q : Exit → Act → World → Prop) (S : World → Prop) (sk vs : List Nat) (f : Nat) (l : List Bool) (N : Nd) (e : Env) (G : Gd) (L : List Ch) : List Nat → Prop
  | [] => True
  | i :: is => (∃ o, ops[i]? = some o ∧ TO P r ops Q (AfterE P r ops Q S sk vs f (l.set i true).toArray i) N o e G L) ∧ Effs P r ops Q S sk vs f l N e G L is
theorem Effs.mem {S : World → Prop} : ∀ {is : List Nat}, Effs P r ops Q S sk vs f l N e G L is → ∀ i ∈ is, ∃ o, ops[i]? = some o ∧ TO P r ops Q (AfterE P r ops Q S sk vs f (l.set i true).toArray i) N o e G L
  | [], _, i, h => by cases h
  | j :: is, ⟨h1, h2⟩, i, h => by
    rcases List.mem_cons.1 h with rfl | h
    · exact h1
    · exact Effs.mem h2 i h
theorem TA.effs (i0 : Nat) (is : List Nat) (hr : (Region.ready .any ops l.toArray == i0 :: is) = true) (h : Effs P r ops Q (Own G0 L0) sk vs f l N e G L (i0 :: is)) : TA P r ops Q (Own G0 L0) sk vs (f + 1) l N e G L := fun a W hF hO hR hsz hcl => by
  have hr := eq_of_beq hr
  refine ⟨fun h0 => (by rw [h0] at hr; cases hr), fun j hj => ?_⟩
  have hj0 := hj
  rw [hr] at hj
  obtain ⟨o, ho, h1⟩ := h.mem j hj
  have := wpO_mono (K' := fun a' w' => (sk.contains j = false → Own G0 L0 w') ∧ AnyX P r ops Q (Own G0 L0) sk f (l.set j true).toArray a' w') (fun a' w' hk => ⟨hk.1, hk.2 hR (by simpa using hsz) (by simpa using hcl.step hj0)⟩) (h1 a W hF hO)
  unfold wpOpIn
  simp only [ho]
  have e1 : l.toArray.setIfInBounds j true = (l.set j true).toArray := by simp
  rw [e1]
  exact this
theorem TA.next {o : Nat} (hS : ∀ W, Own G L W → Own G0 L0 W) (h : TA P r ops Q (Own G0 L0) sk vs f l N e G L) : TK (AfterE P r ops Q (Own G0 L0) sk vs f l.toArray o) N e G L := fun a W hF hO => ⟨fun _ => hS W hO, h a W hF hO⟩
theorem TA.last {o : Nat} (ho : sk.contains o = true) (h : TA P r ops Q (Own G0 L0) sk vs f l N e G L) : TK (AfterE P r ops Q (Own G0 L0) sk vs f l.toArray o) N e G L := fun a W hF hO => ⟨fun hlt => (by rw [ho] at hlt; cases hlt), h a W hF hO⟩
theorem TA.done (hr : (Region.ready .any ops l.toArray == []) = true) (h : TQ Q .normal N e G L) : TA P r ops Q S sk vs 0 l N e G L := fun a W hF hO _ _ _ => ⟨eq_of_beq hr, h a W hF hO⟩
end
end Go.Proofs.Ythlhmoocgjddpaa.Sy
set_option linter.unusedVariables false
set_option linter.unusedSimpArgs false
namespace Go.Proofs.Ythlhmoocgjddpaa.Sy
open Go Go.RowKit Go.Proofs.YthlhmoocgjddpaaW.PrintWords
section
variable {P : Program} {r : Option Nat} {ops : Array Oper} {Q Q' : Exit → Act → World → Prop} {N : Nd} {e : Env} {G : Gd} {L L' : List Ch} {K : Act → World → Prop} {c : Code}
variable {d : Nat} {ty : TypeId} {pos : String} {af : Array Edge} {g : Option (Nat × Bool)} {x y : Operand}
/-! ### A struct -/
def bpl (fs : List Field) (ss : List Nat) : Array (Nat × Nat) := ((fs.zip ss).map fun (f, s) => (f.offset, s)).toArray
theorem run_places (W : World) : ∀ (fs : List Field) (ss : List Nat), fs.map (fun f => (P.info? f.type).map (·.size)) = ss.map some → (fs.mapM fun f => (do pure (f.offset, ← sizeOf f.type) : Sem (Nat × Nat))).run P W = .ok ((fs.zip ss).map fun (f, s) => (f.offset, s)) W
  | [], [], _ => by simp
  | [], _ :: _, h => by cases h
  | _ :: _, [], h => by cases h
  | f :: fs, s :: ss, h => by
    injection h with h1 h2
    obtain ⟨i, hi, hs⟩ := Option.map_eq_some_iff.1 h1
    have hsz : (sizeOf f.type).run P W = .ok s W := by simp [sizeOf, typeInfo, hi, hs]
    rw [List.mapM_cons]
    simp only [Sem.run_bind, hsz, Result.andThen_ok, Sem.run_pure, run_places W fs ss h2, List.zip_cons_cons, List.map_cons]
theorem Val.build {T : Nat} {fs : Array Field} {ss : List Nat} {zs : Array Value} {cs : List Value} {ps : Array (Nat × Operand)} {is : List Nat} {xs : List Operand} {vs : List Value} (hT : P.underlying T = some (.struct fs)) (hz : (P.info? T).bind (·.zero) = some (.agg zs)) (hs0 : (match P.underlying T with | some (.struct fs) => fs.toList.map (fun f => (P.info? f.type).map (·.size)) | _ => []) = ss.map some)
    (hp : ps.toList = is.zip xs) (hl : is.length = xs.length) (hx : evs e xs = some vs) (hf : Instr.fill (fun i => (bpl fs.toList ss)[i]?) zs (is.zip vs) = some cs.toArray) : Val P N e G L ⟨some d, .build T ps, ty, pos, af, g⟩ (.agg cs.toArray) := fun a W hF hO => by
  have hs : fs.toList.map (fun f => (P.info? f.type).map (·.size)) = ss.map some := by rw [hT] at hs0; exact hs0
  obtain ⟨i, hi, hz'⟩ := Option.bind_eq_some_iff.1 hz
  have hm := run_places (P := P) W fs.toList ss hs
  have hpl : (fs.mapM fun f => (do pure (f.offset, ← sizeOf f.type) : Sem (Nat × Nat))).run P W = .ok (bpl fs.toList ss) W := by
    have hq : fs = fs.toList.toArray := by simp
    rw [hq, List.mapM_toArray, Sem.run_map, hm]
    simp [bpl]
  have hev := hF.evs hx
  have hps : (ps.map fun (i, x) => (i, a.eval x)).toList = is.zip vs := by
    rw [Array.toList_map, hp, ← hev, List.zip_map_right]; rfl
  simp only [execOp, Instr.build, Sem.run_bind, zeroValue, typeInfo, underlying, run_program, hi, hz', hT, Result.andThen_ok, Sem.run_pure, Value.cells]
  rw [hpl]
  simp only [Result.andThen_ok, hps, hf, Sem.run_pure]
/-! ### Numbers -/
section
variable {k : IntKind} {p q : Int} {t t' : TypeId}
theorem run_quo (h : ¬ q = 0) (W : World) : (binOp .quo t (.int k p) (.int k q)).run P W = .ok (.int k (k.wrap (p.tdiv q))) W := by simp [binOp, Op.intDiv, h]
theorem Val.min2 {ts : Array TypeId} (hx : ev e x = some (.int k p)) (hy : ev e y = some (.int k q)) : Val P N e G L ⟨some d, .call ⟨.builtin .min, #[x, y], ts⟩, ty, pos, af, g⟩ (.int k (if q < p then q else p)) := fun a W hF hO => by
  simp [execOp, resolve, hF.ev hx, hF.ev hy, invoke, builtin, Builtin.min_, Builtin.min2]
theorem Val.eqS {p q : ByteArray} (hx : ev e x = some (.string p)) (hy : ev e y = some (.string q)) : Val P N e G L ⟨some d, .binOp .eql t x y t', ty, pos, af, g⟩ (.bool (p.toList == q.toList)) := fun a W hF hO => by
  simp [execOp, hF.ev hx, hF.ev hy, eqGuard, binOp, Op.stringOp]
theorem Val.neS {p q : ByteArray} (hx : ev e x = some (.string p)) (hy : ev e y = some (.string q)) : Val P N e G L ⟨some d, .binOp .neq t x y t', ty, pos, af, g⟩ (.bool (!(p.toList == q.toList))) := fun a W hF hO => by
  simp [execOp, hF.ev hx, hF.ev hy, eqGuard, binOp, Op.stringOp]
end
end
end Go.Proofs.Ythlhmoocgjddpaa.Sy
set_option linter.unusedVariables false
set_option linter.unusedSimpArgs false
namespace Go.Proofs.Ythlhmoocgjddpaa.Sy
open Go Go.RowKit Go.Proofs.YthlhmoocgjddpaaW.PrintWords
/-- The cells of some values, side by side. -/
def Els {α : Type} (d : Kd α) (xs : List α) (cs : List Value) : Ch where
  holds B W F := Reps (d.M W B F) d.sz xs cs
  move hm k := k.imp_ (fun _ _ h => Kd.M_step h (fun i hi hlt => hm i hi hlt))
  wide h k := k.imp_ (fun _ _ hh => d.M_mono h hh)
  bound k := k.imp_ (fun _ _ hh => d.M_mono (fun i hi => ⟨hi.1, hi.2.1, hi.2.2.1⟩) (d.M_bound hh))
theorem Els.nil {α : Type} (k : Kd α) (B : Nat) (W : World) : (Els k ([] : List α) []).holds B W (fun _ => False) := Reps.none _ _
theorem Els.snoc {α : Type} (k : Kd α) {xs : List α} {cs cs1 : List Value} {xv : α} (B : Nat) (W : World) (F1 F2 : Nat → Prop) (hd : ∀ k, F1 k → ¬ F2 k) (h1 : (Els k xs cs).holds B W F1) (h2 : (El k xv cs1).holds B W F2) : (Els k (xs ++ [xv]) (cs ++ cs1)).holds B W (fun k => F1 k ∨ F2 k) :=
  Reps.snoc (h1.imp_ (fun _ _ hh => k.M_mono (fun _ => .inl) hh)) (k.M_mono (fun _ => .inr) h2) (k.K_len (k.K_of_M h2))
theorem Row.lit {α : Type} (k : Kd α) {el b n : Nat} {xs : List α} {cs : List Value} (hn : xs.length = n) (hm : Nat.ble n 9223372036854775807 = true) (B : Nat) (W : World) (F1 F2 : Nat → Prop) (hd : ∀ k, F1 k → ¬ F2 k) (h1 : (Blk b cs el).holds B W F1) (h2 : (Els k xs cs).holds B W F2) : (Row k el (.slice (some ⟨b, 0, none⟩) n n) xs).holds B W (fun k => F1 k ∨ F2 k) := by
  subst hn
  refine ⟨fun j hj => .inl ?_, cs, ⟨h2.1, .inr ⟨b, xs.length, cs.toArray, rfl, h1.2.1, h1.2.2, Nat.le_refl _, by simpa [maxLen] using hm, by simpa using h2.1, by simp [← h2.1]⟩⟩, h2.imp_ (fun p c hp => k.M_mono (fun j hj => ⟨.inr hj, fun he => ?_⟩) hp)⟩
  · have : b = j := by simpa [Value.ownBlock] using hj
    exact this ▸ h1.1
  · have : j = b := by simpa [Value.ownBlock] using he
    exact hd b h1.1 (this ▸ hj)
section
variable {P : Program} {r : Option Nat} {ops : Array Oper} {Q Q' : Exit → Act → World → Prop} {N : Nd} {e : Env} {G : Gd} {L L' : List Ch} {K : Act → World → Prop} {c : Code}
variable {d : Nat} {ty : TypeId} {pos : String} {af : Array Edge} {g : Option (Nat × Bool)} {x y : Operand}
/-- A row of one's own that is not empty begins where its block does. -/
theorem TK.opened {α : Type} {k : Kd α} {el cp n : Nat} {A : Option Addr} {xs : List α} {i : Int} {yv : α} (j : Nat) (hj : L[j]? = some (Row k el (.slice A n cp) xs)) (hx : at? xs i = some yv) (h : ∀ b, A = some ⟨b, 0, none⟩ → 0 ≤ i → i < (n : Int) → TK K N e G L) : TK K N e G L := fun a W hF hO => by
  have hb : ∃ b, A = some ⟨b, 0, none⟩ ∧ xs.length = n := by
    obtain ⟨ok, B, os, tape, out, fp, ha, _⟩ := hO
    obtain ⟨_, inner, ⟨_, hv⟩, _⟩ := ha j _ hj
    have hlen : 0 < xs.length := by
      unfold at? at hx
      split at hx
      · exact Nat.lt_of_le_of_lt (Nat.zero_le _) (List.getElem?_eq_some_iff.1 hx).1
      · cases hx
    rcases hv with ⟨he, h0⟩ | ⟨b, cap, cur, he, _⟩
    · omega
    · injection he with h1 h2 _
      exact ⟨b, h1, h2.symm⟩
  obtain ⟨b, hA, hn⟩ := hb
  have hi : 0 ≤ i ∧ i < (n : Int) := by
    unfold at? at hx
    split at hx
    · rename_i h0
      have := (List.getElem?_eq_some_iff.1 hx).1
      omega
    · cases hx
  exact h b hA hi.1 hi.2 a W hF hO
end
end Go.Proofs.Ythlhmoocgjddpaa.Sy
set_option linter.unusedVariables false
set_option linter.unusedSimpArgs false
namespace Go.Proofs.Ythlhmoocgjddpaa.Sy
open Go Go.RowKit Go.Proofs.YthlhmoocgjddpaaW.PrintWords
/-- Values that are shared: what they lead to lies in what G shares. -/
def Sh {α : Type} (G : Gd) (d : Kd α) : Kd α where
  sz := d.sz
  E := []
  K _ x cs := cs.length = d.sz ∧ (∀ u ∈ cs, u.oneCell' = true) ∧ RdK G d x cs
  M _ _ _ x cs := cs.length = d.sz ∧ (∀ u ∈ cs, u.oneCell' = true) ∧ RdK G d x cs
  K_len h := h.1
  K_one h := h.2.1
  K_below _ h := h
  K_of_M h := h
  M_mono _ h := h
  M_bound h := h
  M_move _ h := h
  M_lower _ h := h
theorem Sh.mk {α : Type} {G : Gd} {d : Kd α} {x : α} {cs : List Value} (h : RdK G d x cs) (W : World) (B : Nat) (ok : Nat → Prop) : (Sh G d).M W B ok x cs := ⟨d.K_len (h G.W0 G.self), d.K_one (h G.W0 G.self), h⟩
theorem Row.empty {α β : Type} (k : Kd α) (k' : Kd β) {el : Nat} {v : Value} (hs : k.sz = k'.sz) (B : Nat) (W : World) (F : Nat → Prop) (h : (Row k el v []).holds B W F) : (Row k' el v []).holds B W F := by
  obtain ⟨h0, inner, ho, hr⟩ := h
  have hi : inner = [] := List.eq_nil_of_length_eq_zero (by simpa using hr.1)
  subst hi
  exact ⟨h0, [], by rw [← hs]; exact ho, Reps.none _ _⟩
/-- Elements of which the first n are one's own, the others shared. -/
def Tg {α : Type} (G : Gd) (d : Kd α) : Kd (α × Bool) where
  sz := d.sz
  E := d.E
  K W x cs := if x.2 = true then d.K W x.1 cs else (Sh G d).K W x.1 cs
  M W B ok x cs := if x.2 = true then d.M W B ok x.1 cs else (Sh G d).M W B ok x.1 cs
  K_len {w x cs} h := by split at h; (· exact d.K_len h); (· exact h.1)
  K_one {w x cs} h := by split at h; (· exact d.K_one h); (· exact h.2.1)
  K_below {w w1 x cs} hb h := by split at h <;> rename_i hx; (· show (if x.2 = true then _ else _); rw [if_pos hx]; exact d.K_below hb h); (· show (if x.2 = true then _ else _); rw [if_neg hx]; exact h)
  K_of_M {w b ok x cs} h := by split at h <;> rename_i hx; (· show (if x.2 = true then _ else _); rw [if_pos hx]; exact d.K_of_M h); (· show (if x.2 = true then _ else _); rw [if_neg hx]; exact h)
  M_mono {w b ok ok' x cs} hk h := by split at h <;> rename_i hx; (· show (if x.2 = true then _ else _); rw [if_pos hx]; exact d.M_mono hk h); (· show (if x.2 = true then _ else _); rw [if_neg hx]; exact h)
  M_bound {w b ok x cs} h := by split at h <;> rename_i hx; (· show (if x.2 = true then _ else _); rw [if_pos hx]; exact d.M_bound h); (· show (if x.2 = true then _ else _); rw [if_neg hx]; exact h)
  M_move {w w1 b ok x cs} hm h := by split at h <;> rename_i hx; (· show (if x.2 = true then _ else _); rw [if_pos hx]; exact d.M_move hm h); (· show (if x.2 = true then _ else _); rw [if_neg hx]; exact h)
  M_lower {w b b' ok x cs} hb h := by split at h <;> rename_i hx; (· show (if x.2 = true then _ else _); rw [if_pos hx]; exact d.M_lower hb h); (· show (if x.2 = true then _ else _); rw [if_neg hx]; exact h)
def mixl {α : Type} (n : Int) (l : List α) : List (α × Bool) := (l.take n.toNat).map (·, true) ++ (l.drop n.toNat).map (·, false)
theorem mixl_length {α : Type} (n : Int) (l : List α) : (mixl n l).length = l.length := by
  unfold mixl; rw [List.length_append, List.length_map, List.length_map, ← List.length_append, List.take_append_drop]
theorem Rd.mixed {α : Type} {G G' : Gd} {d : Kd α} {A : Option Addr} {xs : List α} {n : Int} (h : Rd G' (Tg G d) A (mixl n xs)) (hle : G.le G') : Rd G' d A xs := fun W hW => by
  obtain ⟨h1, h2, h3⟩ := h W hW
  rw [mixl_length] at h1 h2 h3
  refine ⟨rfl, h2, fun hp => ?_⟩
  obtain ⟨ad, hA, hf⟩ := h3 hp
  refine ⟨ad, hA, fun j p hj => ?_⟩
  have hlt := (List.getElem?_eq_some_iff.1 hj).1
  have key : ∃ b, (mixl n xs)[j]? = some (p, b) := by
    unfold mixl
    by_cases hjn : j < n.toNat
    · exact ⟨true, by rw [List.getElem?_append_left (by simp; omega), List.getElem?_map, List.getElem?_take, if_pos hjn, hj]; rfl⟩
    · exact ⟨false, by rw [List.getElem?_append_right (by simp; omega), List.getElem?_map, List.getElem?_drop]; simp only [List.length_map, List.length_take]; rw [show n.toNat + (j - min n.toNat xs.length) = j by omega, hj]; rfl⟩
  obtain ⟨b, hb⟩ := key
  obtain ⟨c, hl, hk, hcc⟩ := hf j _ hb
  refine ⟨c, hl, ?_, hcc⟩
  cases b with
  | true => exact hk
  | false => exact hk.2.2 W (hle.ok hW)
theorem Tg.own {α : Type} {G : Gd} {k : Kd α} {W : World} {B : Nat} {F : Nat → Prop} {y : α} {cs : List Value} (h : k.M W B F y cs) : (Tg G k).M W B F (y, true) cs := by
  show (if (y, true).2 = true then k.M W B F y cs else (Sh G k).M W B F y cs)
  rw [if_pos rfl]; exact h
section
variable {P : Program} {Q : Exit → Act → World → Prop} {N : Nd} {e : Env} {G : Gd} {L : List Ch} {X : Exit}
theorem TQ.conv {ch ch' : Ch} (hc : ∀ B W F, ch.holds B W F → ch'.holds B W F) (h : TQ Q X N e G (ch' :: L)) : TQ Q X N e G (ch :: L) := fun a W hF hO => h a W hF (hO.conv (fun F hh => hc _ W F hh))
theorem TQ.two {c1 c2 ch : Ch} (hc : ∀ B W (F1 F2 : Nat → Prop), (∀ k, F1 k → ¬ F2 k) → c1.holds B W F1 → c2.holds B W F2 → ch.holds B W (fun k => F1 k ∨ F2 k)) (h : TQ Q X N e G (ch :: L)) : TQ Q X N e G (c1 :: c2 :: L) := fun a W hF hO => h a W hF (hO.two (fun F1 F2 hd h1 h2 => hc _ W F1 F2 hd h1 h2))
theorem TQ.new {ch : Ch} (hc : ∀ B W, ch.holds B W (fun _ => False)) (h : TQ Q X N e G (ch :: L)) : TQ Q X N e G L := fun a W hF hO => h a W hF (hO.add (Below.refl _ W) (ch.wide (fun _ hk => hk.elim) (hc _ W)))
theorem TQ.sel {Ls T : List Ch} (is : List Nat) (h : Nat) (hn : (is.Nodup && is.all (· < h)) = true) (hl : Ls.map some = is.map fun i => L[i]?) (ht : L.drop h = T) (k : TQ Q X N e G (Ls ++ T)) : TQ Q X N e G L := fun a W hF hO => k a W hF (hO.selT is h hn hl ht)
end
section
variable {P : Program} {r : Option Nat} {ops : Array Oper} {Q Q' : Exit → Act → World → Prop} {N : Nd} {e : Env} {G : Gd} {L L' : List Ch} {K : Act → World → Prop} {c : Code}
variable {d : Nat} {ty : TypeId} {pos : String} {af : Array Edge} {g : Option (Nat × Bool)} {x y : Operand}
/-- A cut of a shared row. -/
def cut? {α : Type} (xs : List α) (lo hi : Int) : Option (List α) := if 0 ≤ lo ∧ lo ≤ hi ∧ hi ≤ (xs.length : Int) then some ((xs.take hi.toNat).drop lo.toNat) else none
theorem cut_no {α : Type} {xs ys : List α} {lo hi : Int} (h : cut? xs lo hi = some ys) : 0 ≤ lo ∧ lo ≤ hi ∧ hi ≤ (xs.length : Int) ∧ ys = (xs.take hi.toNat).drop lo.toNat ∧ (ys.length : Int) = hi - lo := by
  unfold cut? at h
  split at h
  · rename_i hh
    cases h
    refine ⟨hh.1, hh.2.1, hh.2.2, rfl, ?_⟩
    rw [List.length_drop, List.length_take]; omega
  · cases h
def cutA (A : Option Addr) (c lo sz : Nat) : Option Addr := if c = lo then A else A.map (·.add (lo * sz))
theorem Rd.cut {α : Type} {k : Kd α} {A : Option Addr} {c : Nat} {xs ys : List α} {lo hi : Int} (h : Rd G k A xs) (hc : xs.length ≤ c) (hcut : cut? xs lo hi = some ys) : Rd G k (cutA A c lo.toNat k.sz) ys ∧ ys.length ≤ c - lo.toNat := by
  obtain ⟨h0, h1, h2, rfl, h3⟩ := cut_no hcut
  exact ⟨fun W hW => Kd.C_mid (h W hW) (by omega) (by omega) hc, by omega⟩
theorem run_bounds {n cp : Nat} {lo hi : Option Value} {l h : Int} (hl : (lo = none ∧ l = 0) ∨ ∃ k, lo = some (.int k l)) (hh : (hi = none ∧ h = n) ∨ ∃ k, hi = some (.int k h)) (h0 : 0 ≤ l) (h1 : l ≤ h) (h2 : h ≤ cp) (W : World) : (Instr.sliceBounds true n cp lo hi none).run P W = .ok (l.toNat, h.toNat, cp) W := by
  have q1 : l ≤ ((h.toNat : Nat) : Int) := by omega
  have q0 : 0 ≤ h := by omega
  rcases hl with ⟨rfl, rfl⟩ | ⟨k1, rfl⟩ <;> rcases hh with ⟨rfl, rfl⟩ | ⟨k2, rfl⟩ <;> simp [Instr.sliceBounds, Instr.sliceBound, asIntOf, h0, h2, q0, q1, h1]
  exact fun hlt => absurd hlt (by omega)
def optI (e : Env) : Option Operand → Int → Option Int
  | none, z => some z
  | some x, _ => match ev e x with
    | some (.int _ n) => some n
    | _ => none
theorem Val.cut {α : Type} {t el n cp sz : Nat} {A : Option Addr} {lo hi : Option Operand} {l h : Int} {xs ys : List α} (ht : P.underlying t = some (.slice el)) (hs : (P.info? el).map (·.size) = some sz) (hx : ev e x = some (.slice A n cp)) (hn : n = xs.length) (hc : xs.length ≤ cp) (hlo : optI e lo 0 = some l) (hhi : optI e hi n = some h) (hcut : cut? xs l h = some ys) :
    Val P N e G L ⟨some d, .slice t x lo hi none, ty, pos, af, g⟩ (.slice (cutA A cp l.toNat sz) ys.length (cp - l.toNat)) := fun a W hF hO => by
  obtain ⟨h0, h1, h2, _, h3⟩ := cut_no hcut
  obtain ⟨ii, hi', hs'⟩ := Option.map_eq_some_iff.1 hs
  have hlen : ys.length = h.toNat - l.toNat := by omega
  have hb : ∀ (q : Option Operand) (z m : Int), optI e q z = some m → (q.map a.eval = none ∧ m = z) ∨ ∃ kk, q.map a.eval = some (.int kk m) := fun q z m hq => by
    cases q with
    | none => cases hq; exact .inl ⟨rfl, rfl⟩
    | some o =>
      unfold optI at hq
      simp only at hq
      split at hq
      · rename_i kk nn hev
        cases hq
        exact .inr ⟨kk, by rw [Option.map_some, hF.ev hev]⟩
      · cases hq
  subst hn
  have hr := run_bounds (P := P) (n := xs.length) (cp := cp) (hb lo 0 l hlo) (hb hi _ h hhi) h0 h1 (by omega) W
  simp only [execOp, Instr.sliceAt, Instr.slice, hF.ev hx, Sem.run_bind, underlying, run_program, ht, Sem.run_pure, Result.andThen_ok, Option.map_none, hr, sizeOf, typeInfo, hi', hs', cutA, hlen]
end
end Go.Proofs.Ythlhmoocgjddpaa.Sy
set_option linter.unusedVariables false
set_option linter.unusedSimpArgs false
namespace Go.Proofs.Ythlhmoocgjddpaa.Sy
open Go Go.RowKit Go.Proofs.YthlhmoocgjddpaaW.PrintWords
section
variable {P : Program} {d : Nat} {xs ys : Array Value} {f : Field} {fs : List Field} {a b : Value} {r s : Bool} {w : World}
end
section
variable {P : Program} {r : Option Nat} {ops : Array Oper} {Q Q' : Exit → Act → World → Prop} {N : Nd} {e : Env} {G : Gd} {L L' : List Ch} {K : Act → World → Prop} {c : Code}
variable {d : Nat} {ty : TypeId} {pos : String} {af : Array Edge} {g : Option (Nat × Bool)} {x y : Operand}
theorem TC.conv {ch ch' : Ch} (hc : ∀ B W F, ch.holds B W F → ch'.holds B W F) (h : TC P r Q N c e G (ch' :: L)) : TC P r Q N c e G (ch :: L) := fun a W hF hO => h a W hF (hO.conv (fun F hh => hc _ W F hh))
end
/-! ### Rows that stay: shared for good -/
section
variable {P : Program} {r : Option Nat} {ops : Array Oper} {Q Q' : Exit → Act → World → Prop} {N : Nd} {e : Env} {G : Gd} {L L' : List Ch} {K : Act → World → Prop} {c : Code} {X : Exit}
theorem TC.regionAnyS {id : Nat} {os : List Oper} {L0 : List Ch} (sk vs : List Nat) (hm : P.follows .mixedOrders = true) (hR : rokB os.toArray sk vs = true) (h : TA P r os.toArray Q (Own G L0) sk vs os.length (List.replicate os.length false) N e G L) : TC P r Q N (.region id os.toArray true) e G L := fun a W hF hO => by
  refine wpIn_region_any hm (AnyX.any (S := Own G L0) (sk := sk) _ _ _ _ ?_)
  have h2 := h a { W with drawn := W.drawn + 1 } hF (hO.heap rfl rfl rfl rfl) (rok hR) (by simp) (by simpa using closed0 (ops := os.toArray) os.length)
  simpa using h2
theorem TQ.share {ch : Ch} (h : ∀ G', G.le G' → (∀ W, G'.ok W → ∃ F, ch.holds G.B W F) → (∀ Lx W, Own G' Lx W → Own G (ch :: Lx) W) → TQ Q X N e G' L) : TQ Q X N e G (ch :: L) := fun a W hF hO => by
  obtain ⟨G', h1, h2, h3, h4⟩ := hO.share
  exact h G' h1 h3 h4 a W hF h2
end
end Go.Proofs.Ythlhmoocgjddpaa.Sy
set_option linter.unusedVariables false
namespace Go.Proofs.Ythlhmoocgjddpaa.Sy
open Go Go.RowKit Go.Proofs.YthlhmoocgjddpaaW.PrintWords
/-- What is read hangs on the blocks alone. -/
def HO {α : Type} (d : Kd α) : Prop := ∀ (W W' : World) (x : α) (cs : List Value), (∀ k, k < W.heap.size → W'.heap[k]? = W.heap[k]?) → d.K W x cs → d.K W' x cs
theorem cell_kept {W W' : World} (h : ∀ k, k < W.heap.size → W'.heap[k]? = W.heap[k]?) {p : Addr} {v : Value} (hv : W.cell? p = some v) : W'.cell? p = some v := by
  have hlt := World.block_lt_of_cell? _ _ hv
  rw [World.cell?_of_block (w := W) (h _ hlt)]; exact hv
theorem HO.C {α : Type} {d : Kd α} (hd : HO d) {W W' : World} (h : ∀ k, k < W.heap.size → W'.heap[k]? = W.heap[k]?) {A : Option Addr} {n : Nat} {xs : List α} (hC : Kd.C d W A n xs) : Kd.C d W' A n xs := by
  obtain ⟨h1, h2, h3⟩ := hC
  refine ⟨h1, h2, fun hp => ?_⟩
  obtain ⟨ad, hA, hf⟩ := h3 hp
  refine ⟨ad, hA, fun j p hj => ?_⟩
  obtain ⟨c, hl, hK, hc⟩ := hf j p hj
  exact ⟨c, hl, hd W W' p c h hK, fun i u hi => cell_kept h (hc i u hi)⟩
theorem HO.int {k : IntKind} : HO (Kd.int k) := fun _ _ _ _ _ h => h
theorem HO.bool : HO Kd.bool := fun _ _ _ _ _ h => h
theorem HO.string : HO Kd.string := fun _ _ _ _ _ h => h
theorem HO.slice {α : Type} {d : Kd α} {e : Nat} (hd : HO d) : HO (Kd.slice e d) := fun W W' x cs h hK => by
  obtain ⟨A, c, he, hl, hC⟩ := hK
  exact ⟨A, c, he, hl, hd.C h hC⟩
theorem HO.pair {α β : Type} {d : Kd α} {d' : Kd β} (h1 : HO d) (h2 : HO d') : HO (Kd.pair d d') := fun W W' x cs h hK => by
  obtain ⟨c1, c2, he, k1, k2⟩ := hK
  exact ⟨c1, c2, he, h1 W W' _ _ h k1, h2 W W' _ _ h k2⟩
theorem HO.iso {α β : Type} {d : Kd α} {g : β → α} (h1 : HO d) : HO (Kd.iso d g) := fun W W' x cs h hK => h1 W W' _ _ h hK
theorem HO.fix {α : Type} {F : Kd α → Kd α} {sz : Nat} {own : List TypeId} {hs : ∀ n, (Kd.upto F sz own n).sz = sz} {hE : ∀ n q, q ∈ (Kd.upto F sz own n).E → q ∈ own} (h : ∀ d, HO d → HO (F d)) : HO (Kd.fix F sz own hs hE) := by
  have up : ∀ n, HO (Kd.upto F sz own n) := by
    intro n
    induction n with
    | zero => exact fun W W' x cs _ hK => hK.elim
    | succ n ih => exact h _ ih
  rintro W W' x cs hk ⟨n, hK⟩
  exact ⟨n, up n W W' x cs hk hK⟩
/-- All that came in. -/
def Gd.all (W : World) : Gd := ⟨W, fun k => k < W.heap.size, fun k h => h, W.heap.size⟩
theorem Own.all (W : World) : Own (Gd.all W) [] W := ⟨fun k _ => rfl, Nat.le_refl _, rfl, rfl, rfl, fun _ _ => False, fun i c h => by simp at h, fun _ _ _ _ h => h.elim, fun _ _ h => h.elim⟩
theorem Rd.all {α : Type} {d : Kd α} (hd : HO d) {W : World} {A : Option Addr} {n : Nat} {xs : List α} (hn : n = xs.length) (h : Kd.C d W A n xs) : Rd (Gd.all W) d A xs := fun W' hW => by
  subst hn
  exact hd.C (fun k hk => hW k hk) h
/-- What a law's walk gives the row. -/
theorem law_calls {P : Program} {f : FuncId} {args : List Value} {W : World} {Post : Value → Gd → List Ch → Prop} (h : Fn P f (Gd.all W) [] args Post) (hp : ∀ v G' Lr, Post v G' Lr → v = .bool true) : Calls P f args.toArray W fun e W' => e = .returned (.bool true) ∧ Below W.heap.size W W' := by
  refine (h [] W (Own.all W)).mono ?_
  rintro e W' ⟨v, G', Lr, rfl, hle, hP, hO⟩
  have hok := hle.ok hO.ok
  refine ⟨by rw [hp v G' Lr hP], ?_⟩
  have hs : W.heap.size ≤ W'.heap.size := by
    have hB := hO.B
    rw [hle.B] at hB
    exact hB
  exact ⟨hO.os.trans hle.os, hO.tape.trans hle.tape, hO.out.trans hle.out, hs, fun k hk => hok k hk⟩
end Go.Proofs.Ythlhmoocgjddpaa.Sy
set_option linter.unusedVariables false
set_option linter.unusedSimpArgs false
namespace Go.Proofs.Ythlhmoocgjddpaa.Sy
open Go Go.RowKit Go.Proofs.YthlhmoocgjddpaaW.PrintWords
/-- An object that is no row of cells. -/
def Ob (g : Nat) (o : Obj) : Ch where
  holds B W F := F g ∧ B ≤ g ∧ W.heap[g]? = some o
  move hm k := ⟨k.1, k.2.1, (hm g k.1 (blk_lt k.2.2)).trans k.2.2⟩
  wide h k := ⟨h g k.1, k.2⟩
  bound k := ⟨⟨k.1, k.2.1, blk_lt k.2.2⟩, k.2⟩
theorem Own.ob {G : Gd} {L : List Ch} {W : World} (h : Own G L W) {i g : Nat} {o : Obj} (hc : L[i]? = some (Ob g o)) : W.heap[g]? = some o := by
  obtain ⟨ok, B, os, tape, out, fp, a, _⟩ := h
  exact (a i _ hc).2.2
theorem Own.setOb {G : Gd} {L L' : List Ch} {W : World} {o' : Obj} {c' : Ch} (h : Own G L W) (i : Nat) {g : Nat} {o : Obj} (hc : L[i]? = some (Ob g o)) (hL : L.set i c' = L') (hc' : c' = Ob g o' ∨ c' = Emp) : Own G L' (W.putObj g o') := by
  have hg := h.ob hc
  have hlt := blk_lt hg
  refine h.step i hc hL rfl rfl rfl (by simp [World.putObj]) (fun F hF hh => ⟨?_, fun k hk hn => World.putObj_heap_other (fun e => hn (e ▸ hh.1))⟩)
  rcases hc' with rfl | rfl
  · exact ⟨.inl hh.1, hh.2.1, World.putObj_heap_same hlt⟩
  · trivial
section
variable {P : Program} {r : Option Nat} {ops : Array Oper} {Q Q' : Exit → Act → World → Prop} {N N0 : Nd} {e e0 e' : Env} {G : Gd} {L L' : List Ch} {K : Act → World → Prop} {c : Code} {R : Ending → World → Prop}
variable {d : Option Tmp} {ty : TypeId} {pos : String} {af : Array Edge} {g : Option (Nat × Bool)} {x y : Operand}
/-- A call walked in place. -/
theorem TO.inl (N' : Nd) {fo : Operand} {f : Nat} {first cap : Array Value} {as_ : Array Operand} {at_ : Array TypeId} {vs args : List Value} {fn : Func} (hw : Wt ops e ⟨d, .call ⟨.value fo, as_, at_⟩, ty, pos, af, g⟩ = some true)
    (hf : ev e fo = some (.func (.func f) first cap)) (hb : hasBody P f = true) (has : evs e as_.toList = some vs) (hargs : first.toList ++ vs ++ cap.toList = args) (hp : P.funcs[f]? = some fn) (hc : fn.body = some c) (hn : fn.ntmps = N'.n) (hD : N'.D = []) (he : argEnv 0 args = e') (hle : args.length ≤ N'.n)
    (h : ∀ a, Fr N a e → TC P none (BP P fn (After K d a)) N' c e' G L) : TO P r ops Q K N ⟨d, .call ⟨.value fo, as_, at_⟩, ty, pos, af, g⟩ e G L := fun a W hF hO => by
  have h1 : as_.map a.eval = vs.toArray := Array.ext' (by rw [Array.toList_map, hF.evs has])
  refine step_call (Wt.of hw hF) (by simp) (f := f) (args := args.toArray) (W' := W) ?_ (calls_body hp hc hn hD he hle (h a hF) hO) ?_
  · have : first ++ vs.toArray ++ cap = args.toArray := Array.ext' (by rw [← hargs]; simp)
    simp [execOp, resolve, hF.ev hf, h1, Deferred.ofValue, invoke, run_callFunc hb, this]
  · rintro en W2 ⟨v, rfl, hk⟩
    exact ⟨v, rfl, hk⟩
theorem leaves_mono {fn : Func} {tmps : Array Value} {R R' : Ending → World → Prop} (hR : ∀ en W, R en W → R' en W) : ∀ (ds : List Deferred) (u : FrameMode) (W : World), LeavesInM Fence.wide 0 P fn tmps R ds u W → LeavesInM Fence.wide 0 P fn tmps R' ds u W
  | [], u, W, h => by
    cases u with
    | returning => obtain ⟨v, hr, h⟩ := h; exact ⟨v, hr, hR _ _ h⟩
    | panicking c => exact hR _ _ h
    | run => exact h
  | b :: ds, u, W, ⟨h1, h2⟩ => by
    refine ⟨h1, ?_⟩
    rcases h2 with ⟨q, w', ht, hk, hl⟩ | ⟨hn, fv, cap, f, args, ht, hi, hlead, hc⟩
    · exact .inl ⟨q, w', ht, hk, leaves_mono hR ds _ _ hl⟩
    · refine .inr ⟨hn, fv, cap, f, args, ht, hi, hlead, hc.mono fun en u' w' he => ?_⟩
      cases en with
      | returned v => exact leaves_mono hR ds _ _ he
      | panicked c => exact leaves_mono hR ds _ _ he
      | outgrown => exact hR _ _ he
/-- What a call comes to, and what follows it. -/
theorem TC.after {fn : Func} (S : Ending → World → Prop) (hS : ∀ en W, S en W → R en W) (h : TC P none (BP P fn S) N0 c e0 G L) : TC P none (BP P fn R) N0 c e0 G L := fun a' W hF' hO => by
  refine wpIn_mono (h a' W hF' hO) (fun x a2 W2 hq => ?_)
  cases x <;> first | exact leaves_mono hS _ _ _ hq | exact hq
theorem TC.condT {t : Nat} {x y : Code} (hc : get e t = some (.bool true)) (h : TC P r Q N x e G L) : TC P r Q N (.cond (.tmp t) x y) e G L := TC.cond hc (fun _ => h) (fun hb => (by cases hb))
/-! ### A range over a function -/
/-- A range's record, at a state, with a jump that is left to do. -/
def LoopO (R : Loop) (st : LoopState) (p : Option Code) : Obj := .loop { R with state := st, pending := p }
theorem rounds_fr {a : Act} (hF : Fr N a e) : Fr ⟨N.n, []⟩ ⟨a.tmps, []⟩ e := ⟨rfl, hF.sz, hF.at_⟩
abbrev mark (dl : Nat) : Deferred := { target := .collected dl, args := #[] }
/-- What follows a range over a function, by what was left to do. -/
def RangeP (P : Program) (r : Option Nat) (l : Nat) (Q : Exit → Act → World → Prop) (a : Act) : Ending → World → Prop := rangePost (Fw r) 0 P l Q a
theorem TC.rangeFunc (N' : Nd) {ps : Array Tmp} {assign body c' : Code} {f : Nat} {first cap : Array Value} {fn : Func} {fo : Operand} {e1 : Nat → Env} (hf : ev e fo = some (.func (.func f) first cap)) (hb : hasBody P f = true) (hp : P.funcs[f]? = some fn) (hc : fn.body = some c') (hn : fn.ntmps = N'.n) (hD : N'.D = [])
    (he : ∀ l, argEnv 0 (first.toList ++ [.func (.yield l) #[] #[]] ++ cap.toList) = e1 l) (hle : (first.toList.length + 1 + cap.toList.length) ≤ N'.n)
    (h : ∀ (a : Act) (R : Loop) (l dl : Nat), R.params = ps → R.assign = assign → R.body = body → Fr ⟨N.n, []⟩ ⟨R.tmps, []⟩ e → Fr (N.push (mark dl)) { a with defers := mark dl :: a.defers } e → TC P none (BP P fn (RangeP P none l Q { a with defers := mark dl :: a.defers })) N' c' (e1 l) G (Ob l (LoopO R .ready none) :: Ob dl (.deferred (some [])) :: L)) :
    TC P none Q N (.rangeFunc fo ps assign body) e G L := fun a W hF hO => by
  refine wpIn_rangeFunc fun fn0 hfn => ?_
  have b0 : (W.alloc (.deferred (some []))).heap[W.heap.size]? = some (.deferred (some [])) := blk_new W _
  have hO1 := (hO.add (c := Ob W.heap.size (.deferred (some []))) ((Below.refl _ W).alloc (Nat.le_refl _) _) ⟨Nat.le_refl _, hO.B, b0⟩)
  have hsz : (W.alloc (.deferred (some []))).heap.size = W.heap.size + 1 := World.size_alloc _ _
  have hO2 := (hO1.add (c := Ob (W.alloc (.deferred (some []))).heap.size (.loop ⟨.ready, none, fn0, a.tmps, ps, assign, body, W.heap.size⟩)) ((Below.refl _ _).alloc (Nat.le_refl _) _) ⟨Nat.le_refl _, hO1.B, blk_new _ _⟩)
  rw [hsz] at hO2
  refine ⟨W.heap.size + 1, [mark W.heap.size], (W.alloc (.deferred (some []))).alloc (.loop ⟨.ready, none, fn0, a.tmps, ps, assign, body, W.heap.size⟩), { target := .fn (.func f) cap, args := first ++ #[.func (.yield (W.heap.size + 1)) #[] #[]] }, (W.alloc (.deferred (some []))).alloc (.loop ⟨.ready, none, fn0, a.tmps, ps, assign, body, W.heap.size⟩), f,
    first ++ #[.func (.yield (W.heap.size + 1)) #[] #[]] ++ cap, (W.alloc (.deferred (some []))).alloc (.loop ⟨.ready, none, fn0, a.tmps, ps, assign, body, W.heap.size⟩), ?_, ?_, fun _ _ => trivial, ?_, fun h => (by cases h), ?_⟩
  · exact run_enterLoop_outer _ _ _ _ _
  · simp [resolve, rangeCall, Act.eval, hF.ev hf, Deferred.ofValue]
    have := hF.ev hf
    cases fo <;> simp_all [Act.eval]
  · simp [invoke, run_callFunc hb]
  · refine callsIn_wide.2 ?_
    have hargs : (first ++ #[Value.func (.yield (W.heap.size + 1)) #[] #[]] ++ cap : Array Value) = (first.toList ++ [Value.func (.yield (W.heap.size + 1)) #[] #[]] ++ cap.toList).toArray := Array.ext' (by simp)
    rw [hargs]
    refine calls_body hp hc hn hD (he _) (by simp only [List.length_append, List.length_cons, List.length_nil]; omega) (h a ⟨.ready, none, fn0, a.tmps, ps, assign, body, W.heap.size⟩ (W.heap.size + 1) W.heap.size rfl rfl rfl (rounds_fr hF) ⟨by rw [hF.df]; rfl, hF.sz, hF.at_⟩) hO2
/-- The iterator has returned: what was left to do. -/
theorem RangeP.normal {l : Nat} {a : Act} {v : Value} {Rc : Loop} {st : LoopState} (i : Nat) (hF : Fr N a e) (hc : L[i]? = some (Ob l (LoopO Rc st none))) (hs : (st == .busy) = false) (hL : L.set i Emp = L') (k : TQ Q .normal N e G L') : ∀ W, Own G L W → RangeP P r l Q a (.returned v) W := fun W hO =>
  ⟨none, _, run_endLoop (hO.ob hc) (fun h => by subst h; cases hs), k _ _ hF (hO.setOb i hc hL (.inr rfl))⟩
theorem RangeP.exit {l id : Nat} {a : Act} {v : Value} {Rc : Loop} {st : LoopState} (i : Nat) (hF : Fr N a e) (hc : L[i]? = some (Ob l (LoopO Rc st (some (.exit id))))) (hs : (st == .busy) = false) (hL : L.set i Emp = L') (k : TQ Q (.exit id) N e G L') : ∀ W, Own G L W → RangeP P r l Q a (.returned v) W := fun W hO =>
  ⟨some (.exit id), _, run_endLoop (hO.ob hc) (fun h => by subst h; cases hs), wpIn_exit (k _ _ hF (hO.setOb i hc hL (.inr rfl)))⟩
theorem RangeP.ret {l : Nat} {a : Act} {v : Value} {Rc : Loop} {st : LoopState} (i : Nat) (hF : Fr N a e) (hc : L[i]? = some (Ob l (LoopO Rc st (some .ret)))) (hs : (st == .busy) = false) (hL : L.set i Emp = L') (k : TQ Q .ret N e G L') : ∀ W, Own G L W → RangeP P r l Q a (.returned v) W := fun W hO =>
  ⟨some .ret, _, run_endLoop (hO.ob hc) (fun h => by subst h; cases hs), wpIn_ret (k _ _ hF (hO.setOb i hc hL (.inr rfl)))⟩
/-- The round's slots. -/
def zipEnv : List Tmp → List Value → Env → Env
  | t :: ts, v :: vs, e => zipEnv ts vs ((t, v) :: e)
  | _, _, e => e
theorem zip_fr {N : Nd} : ∀ (ts : List Tmp) (vs : List Value) (t : Array Value) (e : Env), Fr N ⟨t, []⟩ e → ts.all (fun i => Nat.blt i N.n) = true → Fr N ⟨(ts.zip vs).foldl (fun t (p, v) => t.setIfInBounds p v) t, []⟩ (zipEnv ts vs e)
  | [], vs, t, e, h, _ => by cases vs <;> exact h
  | i :: ts, [], t, e, h, _ => h
  | i :: ts, v :: vs, t, e, h, ha => by
    simp only [List.all_cons, Bool.and_eq_true] at ha
    exact zip_fr ts vs _ _ (h.put ha.1 v) ha.2
/-- What is left behind the assignments of a round. -/
def RB (P : Program) (l : Nat) (body : Code) (R : Ending → World → Prop) (a1 : Act) (w1 : World) : Prop := ∃ w2, (Instr.beginRound l).run P w1 = .ok () w2 ∧ body.wpIn (Fw (some l)) 0 P (roundPost P l R) a1 w2
theorem TO.yield {l : Nat} {as_ : Array Operand} {at_ : Array TypeId} {vs : List Value} {Rc : Loop} {ps : Array Tmp} {assign body : Code} {e1 : Env} (i : Nat) (hw : Wt ops e ⟨d, .call ⟨.value x, as_, at_⟩, ty, pos, af, g⟩ = some true) (hx : ev e x = some (.func (.yield l) #[] #[])) (has : evs e as_.toList = some vs)
    (hc : L[i]? = some (Ob l (LoopO Rc .ready none))) (hp : Rc.params = ps) (ha : Rc.assign = assign) (hbd : Rc.body = body) (hps : vs.length = ps.size) (hF0 : Fr ⟨N0.n, []⟩ ⟨Rc.tmps, []⟩ e0) (he1 : zipEnv ps.toList vs e0 = e1) (hb : ps.toList.all (fun i => Nat.blt i N0.n) = true)
    (h : ∀ a, Fr N a e → TC P (some l) (Exit.then (RB P l body (After K d a)) (fun _ _ _ => False)) ⟨N0.n, []⟩ assign e1 G L) : TO P r ops Q K N ⟨d, .call ⟨.value x, as_, at_⟩, ty, pos, af, g⟩ e G L := fun a W hF hO => by
  subst hp ha hbd
  have h1 : as_.map a.eval = vs.toArray := Array.ext' (by rw [Array.toList_map, hF.evs has])
  have hloop := hO.ob hc
  have hsz : vs.toArray.size = Rc.params.size := by simpa using hps
  unfold wpO
  rw [if_pos (Wt.of hw hF)]
  refine ⟨fun _ _ => trivial, ?_⟩
  have hrd : (Fw r).round = r := rfl
  rw [hrd, semAt_eq (by simp)]
  have hrun : (execOp a.eval ⟨d, .call ⟨.value x, as_, at_⟩, ty, pos, af, g⟩).run P W = .ok (.round l Rc.fn ((Rc.params.zip vs.toArray).foldl (fun t (p, v) => t.setIfInBounds p v) Rc.tmps) Rc.assign Rc.body) W := by
    have := run_yield (P := P) (args := vs.toArray) hloop hsz
    simp [execOp, resolve, hF.ev hx, h1, Deferred.ofValue, invoke, this]
  rw [hrun, Oper.uponIn_round]
  refine ⟨fun h => (by cases h), ?_⟩
  have hfold : (Rc.params.zip vs.toArray).foldl (fun t (p, v) => t.setIfInBounds p v) Rc.tmps = (Rc.params.toList.zip vs).foldl (fun t (p, v) => t.setIfInBounds p v) Rc.tmps := by
    rw [← Array.foldl_toList, Array.toList_zip]
  rw [hfold]
  have hfr := zip_fr Rc.params.toList vs Rc.tmps e0 hF0 hb
  rw [he1] at hfr
  have hR : RoundIn Fence.wide (0 - 1) P l Rc.fn ((Rc.params.toList.zip vs).foldl (fun t (p, v) => t.setIfInBounds p v) Rc.tmps) Rc.assign Rc.body W (After K d a) := roundIn_of_wpIn trivial (h a hF _ W hfr hO)
  have hR2 : RoundIn (Fw r) (0 - 1) P l Rc.fn ((Rc.params.toList.zip vs).foldl (fun t (p, v) => t.setIfInBounds p v) Rc.tmps) Rc.assign Rc.body W (After K d a) := hR
  refine hR2.mono ?_
  rintro en W2 ⟨v, rfl, hk⟩
  exact hk
theorem TQ.begin {l : Nat} {Rc : Loop} {body : Code} {Q0 : Exit → Act → World → Prop} (i : Nat) (hc : L[i]? = some (Ob l (LoopO Rc .ready none))) (hL : L.set i (Ob l (LoopO Rc .busy none)) = L') (h : TC P (some l) (roundPost P l R) N body e G L') : TQ (Exit.then (RB P l body R) Q0) .normal N e G L := fun a W hF hO =>
  ⟨_, run_beginRound (hO.ob hc) rfl, h a _ hF (hO.setOb i hc hL (.inl rfl))⟩
theorem TQ.roundN {l : Nat} {Rc : Loop} (i : Nat) (hc : L[i]? = some (Ob l (LoopO Rc .busy none))) (hL : L.set i (Ob l (LoopO Rc .ready none)) = L') (k : ∀ W, Own G L' W → R (.returned (.bool true)) W) : TQ (roundPost P l R) .normal N e G L := fun a W hF hO =>
  ⟨_, _, run_endRound none (hO.ob hc), k _ (hO.setOb i hc hL (.inl rfl))⟩
theorem TQ.roundR {l : Nat} {Rc : Loop} (i : Nat) (hc : L[i]? = some (Ob l (LoopO Rc .busy none))) (hL : L.set i (Ob l (LoopO Rc .done (some .ret))) = L') (k : ∀ W, Own G L' W → R (.returned (.bool false)) W) : TQ (roundPost P l R) .ret N e G L := fun a W hF hO =>
  ⟨_, _, run_endRound (some .ret) (hO.ob hc), k _ (hO.setOb i hc hL (.inl rfl))⟩
theorem PQ.round {l : Nat} : PQ (roundPost P l R) := fun c a w d v hq => hq.elim
theorem PQ.no : PQ (fun _ _ _ => False) := fun c a w d v hq => hq.elim
/-! ### The rows of what ranges deferred -/
/-- Blocks for the rounds' deferred calls: none was deferred. -/
def Mk (ds : List Nat) : Ch where
  holds B W F := ds.Nodup ∧ ∀ d ∈ ds, F d ∧ B ≤ d ∧ W.heap[d]? = some (.deferred (some []))
  move hm k := ⟨k.1, fun d hd => ⟨(k.2 d hd).1, (k.2 d hd).2.1, (hm d (k.2 d hd).1 (blk_lt (k.2 d hd).2.2)).trans (k.2 d hd).2.2⟩⟩
  wide h k := ⟨k.1, fun d hd => ⟨h d (k.2 d hd).1, (k.2 d hd).2⟩⟩
  bound k := ⟨k.1, fun d hd => ⟨⟨(k.2 d hd).1, (k.2 d hd).2.1, blk_lt (k.2 d hd).2.2⟩, (k.2 d hd).2⟩⟩
theorem Mk.nil (B : Nat) (W : World) : (Mk []).holds B W (fun _ => False) := ⟨List.nodup_nil, fun d hd => by cases hd⟩
theorem Mk.cons {d : Nat} {ds : List Nat} (B : Nat) (W : World) (F1 F2 : Nat → Prop) (hd : ∀ k, F1 k → ¬ F2 k) (h1 : (Ob d (.deferred (some []))).holds B W F1) (h2 : (Mk ds).holds B W F2) : (Mk (d :: ds)).holds B W (fun k => F1 k ∨ F2 k) := by
  refine ⟨List.nodup_cons.2 ⟨fun hm => hd d h1.1 (h2.2 d hm).1, h2.1⟩, fun k hk => ?_⟩
  rcases List.mem_cons.1 hk with rfl | hk
  · exact ⟨.inl h1.1, h1.2⟩
  · exact ⟨.inr (h2.2 k hk).1, (h2.2 k hk).2⟩
theorem TC.two {c1 c2 ch : Ch} (hc : ∀ B W (F1 F2 : Nat → Prop), (∀ k, F1 k → ¬ F2 k) → c1.holds B W F1 → c2.holds B W F2 → ch.holds B W (fun k => F1 k ∨ F2 k)) (h : TC P r Q N c e G (ch :: L)) : TC P r Q N c e G (c1 :: c2 :: L) := fun a W hF hO => h a W hF (hO.two (fun F1 F2 hd h1 h2 => hc _ W F1 F2 hd h1 h2))
theorem Own.takeMk {d : Nat} {ds : List Nat} {W : World} {o' : Obj} (h : Own G L W) (i : Nat) (hc : L[i]? = some (Mk (d :: ds))) : W.heap[d]? = some (.deferred (some [])) ∧ Own G (L.set i (Mk ds)) (W.putObj d o') := by
  have hd : W.heap[d]? = some (.deferred (some [])) := by
    obtain ⟨ok, B, os, tape, out, fp, a, _⟩ := h
    exact ((a i _ hc).2 d (by simp)).2.2
  refine ⟨hd, h.step i hc rfl rfl rfl rfl (by simp [World.putObj]) (fun F hF hh => ⟨⟨(List.nodup_cons.1 hh.1).2, fun k hk => ?_⟩, fun k hk hn => World.putObj_heap_other (fun e => hn (e ▸ (hh.2 d (by simp)).1))⟩)⟩
  have hk2 := hh.2 k (List.mem_cons_of_mem _ hk)
  have hne : k ≠ d := fun e => (List.nodup_cons.1 hh.1).1 (e ▸ hk)
  exact ⟨.inl hk2.1, hk2.2.1, (World.putObj_heap_other hne).trans hk2.2.2⟩
/-! ### What was deferred -/
theorem Lv.marks {fn : Func} {tmps : Array Value} : ∀ {ds : List Nat} {L L' : List Ch} (i : Nat) (hc : L[i]? = some (Mk ds)) (hL : L.set i Emp = L') (h : Lv P fn R tmps [] G L'), Lv P fn R tmps (List.map mark ds) G L
  | [], L, L', i, hc, hL, h => fun W hO => h W (hO.step i hc hL rfl rfl rfl (Nat.le_refl _) (fun F hF hh => ⟨trivial, fun _ _ _ => rfl⟩))
  | d :: ds, L, L', i, hc, hL, h => fun W hO => by
    obtain ⟨h1, h2⟩ := hO.takeMk (o' := .deferred none) i hc
    have hlt : i < L.length := (List.getElem?_eq_some_iff.1 hc).1
    refine ⟨by simp, .inl ⟨d, _, rfl, run_takeDeferred h1, Lv.marks (ds := ds) (L := L.set i (Mk ds)) (L' := L') i (by simp [hlt]) (by rw [List.set_set]; exact hL) h _ h2⟩⟩
section
variable {fn : Func} {tmps : Array Value} {ds : List Deferred}
theorem Lv.sel {Ls T : List Ch} (is : List Nat) (h : Nat) (hn : (is.Nodup && is.all (· < h)) = true) (hl : Ls.map some = is.map fun i => L[i]?) (ht : L.drop h = T) (k : Lv P fn R tmps ds G (Ls ++ T)) : Lv P fn R tmps ds G L := fun W hO => k W (hO.selT is h hn hl ht)
theorem Lv.conv {ch ch' : Ch} (hc : ∀ B W F, ch.holds B W F → ch'.holds B W F) (h : Lv P fn R tmps ds G (ch' :: L)) : Lv P fn R tmps ds G (ch :: L) := fun W hO => h W (hO.conv (fun F hh => hc _ W F hh))
theorem Lv.two {c1 c2 ch : Ch} (hc : ∀ B W (F1 F2 : Nat → Prop), (∀ k, F1 k → ¬ F2 k) → c1.holds B W F1 → c2.holds B W F2 → ch.holds B W (fun k => F1 k ∨ F2 k)) (h : Lv P fn R tmps ds G (ch :: L)) : Lv P fn R tmps ds G (c1 :: c2 :: L) := fun W hO => h W (hO.two (fun F1 F2 hd h1 h2 => hc _ W F1 F2 hd h1 h2))
theorem Lv.new {ch : Ch} (hc : ∀ B W, ch.holds B W (fun _ => False)) (h : Lv P fn R tmps ds G (ch :: L)) : Lv P fn R tmps ds G L := fun W hO => h W (hO.add (Below.refl _ W) (ch.wide (fun _ hk => hk.elim) (hc _ W)))
theorem Lv.nilRow {α : Type} (k : Kd α) (el : Nat) (h : Lv P fn R tmps ds G (Row k el (.slice none 0 0) [] :: L)) : Lv P fn R tmps ds G L := fun W hO => h W (hO.nilRow k el)
theorem Lv.back {G' : Gd} {ch : Ch} (hr : ∀ Lx W, Own G' Lx W → Own G (ch :: Lx) W) (h : Lv P fn R tmps ds G (ch :: L)) : Lv P fn R tmps ds G' L := fun W hO => h W (hr L W hO)
theorem Lv.share {ch : Ch} (h : ∀ G', G.le G' → (∀ W, G'.ok W → ∃ F, ch.holds G.B W F) → (∀ Lx W, Own G' Lx W → Own G (ch :: Lx) W) → Lv P fn R tmps ds G' L) : Lv P fn R tmps ds G (ch :: L) := fun W hO => by
  obtain ⟨G', h1, h2, h3, h4⟩ := hO.share
  exact h G' h1 h3 h4 W h2
end
theorem Lv.mark {fn : Func} {tmps : Array Value} {ds : List Deferred} {dl : Nat} (i : Nat) (hc : L[i]? = some (Ob dl (.deferred (some [])))) (hL : L.set i Emp = L') (h : Lv P fn R tmps ds G L') : Lv P fn R tmps (mark dl :: ds) G L := fun W hO =>
  ⟨by simp, .inl ⟨dl, _, rfl, run_takeDeferred (hO.ob hc), h _ (hO.setOb i hc hL (.inr rfl))⟩⟩
theorem TQ.finL {fn : Func} {x : Exit} {ds : List Deferred} (hx : x = .ret ∨ x = .normal) (hD : N.D = ds) (h : ∀ a, Fr N a e → Lv P fn R a.tmps ds G L) : TQ (BP P fn R) x N e G L := TQ.leave hx (fun a hF => by rw [hD]; exact h a hF)
/-- A deferred function's body. -/
def BD (P : Program) (fn : Func) (R : World → Prop) : Exit → Act → World → Prop
  | .normal, a, w | .ret, a, w => a.defers = [] ∧ ∃ v, (results fn a.tmps).run P w = .ok v w ∧ R w
  | _, _, _ => False
theorem Lv.fn (N' : Nd) {fn fn' : Func} {tmps : Array Value} {ds : List Deferred} {f : Nat} {cap dargs : Array Value} {args : List Value} (hb : hasBody P f = true) (hp : P.funcs[f]? = some fn') (hc : fn'.body = some c) (hn : fn'.ntmps = N'.n) (hD : N'.D = []) (hargs : dargs.toList ++ cap.toList = args) (he : argEnv 0 args = e') (hle : args.length ≤ N'.n)
    (h : TC P none (BD P fn' (fun W => LeavesInM Fence.wide 0 P fn tmps R ds .returning W)) N' c e' G L) : Lv P fn R tmps ({ target := .fn (.func f) cap, args := dargs } :: ds) G L := fun W hO => by
  have ha : dargs ++ cap = args.toArray := Array.ext' (by rw [← hargs]; simp)
  refine ⟨by simp, .inr ⟨fun h => (by cases h), .func f, cap, f, dargs ++ cap, rfl, by simp [invoke, run_callFunc hb], fun _ _ => trivial, ?_⟩⟩
  rw [ha]
  refine (callsDIn_of_wp (R := fun en W => ∃ v, en = .returned v ∧ LeavesInM Fence.wide 0 P fn tmps R ds .returning W) hp hc trivial (wpIn_mono (h _ W (fr_start hn hD he hle) hO) (fun x a w hq => ?_)) rfl).mono ?_
  · cases x <;> first | exact ⟨hq.1, hq.2.choose, hq.2.choose_spec.1, _, rfl, hq.2.choose_spec.2⟩ | exact hq.elim
  · rintro en u' w' ⟨rfl, v, rfl, hl⟩
    exact hl
theorem TO.defer {fo : Operand} {f : Nat} {first cap : Array Value} {as_ : Array Operand} {at_ : Array TypeId} {vs : List Value} (hw : Wt ops e ⟨none, .defer ⟨.value fo, as_, at_⟩, ty, pos, af, g⟩ = some true) (hf : ev e fo = some (.func (.func f) first cap)) (has : evs e as_.toList = some vs)
    (k : TK K (N.push { target := .fn (.func f) cap, args := first ++ vs.toArray }) e G L) : TO P none ops Q K N ⟨none, .defer ⟨.value fo, as_, at_⟩, ty, pos, af, g⟩ e G L := fun a W hF hO => by
  have h1 : as_.map a.eval = vs.toArray := Array.ext' (by rw [Array.toList_map, hF.evs has])
  unfold wpO
  rw [if_pos (Wt.of hw hF)]
  refine ⟨fun _ _ => trivial, ?_⟩
  have hrun : (Oper.semAt (Fw none).round a.eval ⟨none, .defer ⟨.value fo, as_, at_⟩, ty, pos, af, g⟩).run P W = .ok (.defer { target := .fn (.func f) cap, args := first ++ vs.toArray }) W := by
    have : ∀ o : Oper, Oper.semAt (Fw none).round a.eval o = execOp a.eval o := fun o => rfl
    rw [this]
    simp [execOp, resolve, hF.ev hf, h1, Deferred.ofValue]
  rw [hrun, Oper.uponIn_defer]
  exact k _ W ⟨by simp [Nd.push, hF.df, Act.put], hF.sz, hF.at_⟩ hO
end
end Go.Proofs.Ythlhmoocgjddpaa.Sy
set_option linter.unusedVariables false
set_option linter.unusedSimpArgs false
namespace Go.Proofs.Ythlhmoocgjddpaa.Sy
open Go Go.RowKit Go.Proofs.YthlhmoocgjddpaaW.PrintWords
/-- A string's byte. -/
def byte? (s : ByteArray) (i : Int) : Option Int := if 0 ≤ i then (s.data.toList[i.toNat]?).map (fun b => (b.toNat : Int)) else none
/-- Two strings, one behind the other. -/
def cat (p q : ByteArray) : ByteArray := ⟨(p.data.toList ++ q.data.toList).toArray⟩
theorem cat_eq (p q : ByteArray) : p ++ q = cat p q := by
  apply ByteArray.ext
  rw [ByteArray.data_append]
  apply Array.ext'
  simp [cat]
theorem toList_data (p : ByteArray) : p.toList = p.data.toList := ByteArray.toList_eq p
/-- A cut of a string. -/
def cutS? (s : ByteArray) (lo hi : Int) : Option ByteArray := if 0 ≤ lo ∧ lo ≤ hi ∧ hi ≤ (s.size : Int) then some ⟨((s.data.toList.take hi.toNat).drop lo.toNat).toArray⟩ else none
theorem cut_eq (s : ByteArray) (l h : Nat) : s.extract l h = ⟨((s.data.toList.take h).drop l).toArray⟩ := by
  apply ByteArray.ext
  rw [ByteArray.data_extract]
  apply Array.ext'
  simp [List.drop_take]
section
variable {P : Program} {w : World}
end
section
variable {P : Program} {r : Option Nat} {ops : Array Oper} {Q Q' : Exit → Act → World → Prop} {N : Nd} {e : Env} {G : Gd} {L L' : List Ch} {K : Act → World → Prop} {c : Code}
variable {d : Nat} {ty : TypeId} {pos : String} {af : Array Edge} {g : Option (Nat × Bool)} {x y : Operand} {t t' : TypeId}
theorem Val.addS {p q : ByteArray} (hx : ev e x = some (.string p)) (hy : ev e y = some (.string q)) (hl : p.size + q.size ≤ 9223372036854775807) : Val P N e G L ⟨some d, .binOp .add t x y t', ty, pos, af, g⟩ (.string (cat p q)) := fun a W hF hO => by
  rw [← cat_eq]
  have hm : IntKind.i64.max = 9223372036854775807 := by decide
  have h : ¬ (((p.size + q.size : Nat) : Int) > IntKind.i64.max) := by rw [hm]; omega
  have hb : (binOp .add t (.string p) (.string q)).run P W = .ok (.string (p ++ q)) W := by simp only [binOp, Op.stringOp, if_neg h]; rfl
  simp [execOp, hF.ev hx, hF.ev hy, eqGuard, hb]
theorem Val.indexS {s : ByteArray} {i b : Int} {k : IntKind} (ht : P.underlying t = some .string) (hx : ev e x = some (.string s)) (hy : ev e y = some (.int k i)) (hb : byte? s i = some b) : Val P N e G L ⟨some d, .index t x y, ty, pos, af, g⟩ (.int .u8 b) := fun a W hF hO => by
  unfold byte? at hb
  by_cases h0 : 0 ≤ i
  · rw [if_pos h0] at hb
    obtain ⟨u, hu, rfl⟩ := Option.map_eq_some_iff.1 hb
    have hu : s[i.toNat]? = some u := by
      obtain ⟨hlt, rfl⟩ := List.getElem?_eq_some_iff.1 hu
      have hlt' : i.toNat < s.size := by simpa using hlt
      rw [getElem?_pos s i.toNat hlt']; rfl
    simp [execOp, hF.ev hx, hF.ev hy, Instr.index, asIntOf, underlying, ht, h0, hu]
  · rw [if_neg h0] at hb; cases hb
theorem run_sbounds {n : Nat} {lo hi : Option Value} {l h : Int} (hl : (lo = none ∧ l = 0) ∨ ∃ k, lo = some (.int k l)) (hh : (hi = none ∧ h = n) ∨ ∃ k, hi = some (.int k h)) (h0 : 0 ≤ l) (h1 : l ≤ h) (h2 : h ≤ n) (W : World) : (Instr.sliceBounds false n n lo hi none).run P W = .ok (l.toNat, h.toNat, n) W := by
  have e1 : (h.toNat : Int) = h := by omega
  rcases hl with ⟨rfl, rfl⟩ | ⟨k, rfl⟩ <;> rcases hh with ⟨rfl, rfl⟩ | ⟨k', rfl⟩ <;> simp [Instr.sliceBounds, Instr.sliceBound, asIntOf, *] <;> omega
theorem Val.cutS {s s' : ByteArray} {lo hi : Option Operand} {l h : Int} (ht : P.underlying t = some .string) (hx : ev e x = some (.string s)) (hlo : optI e lo 0 = some l) (hhi : optI e hi s.size = some h) (hc : cutS? s l h = some s') : Val P N e G L ⟨some d, .slice t x lo hi none, ty, pos, af, g⟩ (.string s') := fun a W hF hO => by
  unfold cutS? at hc
  obtain ⟨⟨h0, h1, h2⟩, hc⟩ := ite_no hc
  obtain rfl := Option.some.inj hc
  rw [← cut_eq]
  have hl : (lo.map a.eval = none ∧ l = 0) ∨ ∃ k, lo.map a.eval = some (.int k l) := by
    unfold optI at hlo
    cases lo with
    | none => cases hlo; exact .inl ⟨rfl, rfl⟩
    | some o =>
      simp only at hlo
      split at hlo
      · rename_i k v hv; cases hlo; exact .inr ⟨k, by rw [Option.map_some, hF.ev hv]⟩
      · cases hlo
  have hh : (hi.map a.eval = none ∧ h = s.size) ∨ ∃ k, hi.map a.eval = some (.int k h) := by
    unfold optI at hhi
    cases hi with
    | none => cases hhi; exact .inl ⟨rfl, rfl⟩
    | some o =>
      simp only at hhi
      split at hhi
      · rename_i k v hv; cases hhi; exact .inr ⟨k, by rw [Option.map_some, hF.ev hv]⟩
      · cases hhi
  have hb := run_sbounds (P := P) hl hh h0 h1 h2 W
  simp [execOp, hF.ev hx, Instr.sliceAt, Instr.slice, underlying, ht, hb]
/-- A whole number turned into one of another kind. -/
theorem Val.convI {k k' : IntKind} {n : Int} {td : TypeDesc} (hs : P.underlying t = some td) (hd : P.underlying t' = some (.int k')) (hx : ev e x = some (.int k n)) : Val P N e G L ⟨some d, .convert t t' x, ty, pos, af, g⟩ (.int k' (k'.wrap n)) := fun a W hF hO => by
  simp [execOp, hF.ev hx, convert, underlying, hs, hd, Conv.intToInt]
/-- An element of an array that is at hand. -/
def atA (cs : List Value) (i : Int) : Option Value := if 0 ≤ i then cs[i.toNat]? else none
theorem Val.eqT {p q : ByteArray} (hx : ev e x = some (.string p)) (hy : ev e y = some (.string q)) : Val P N e G L ⟨some d, .binOp .eql t x y t', ty, pos, af, g⟩ (.bool (p.data.toList == q.data.toList)) := by
  rw [← toList_data, ← toList_data]; exact Val.eqS hx hy
theorem Val.neT {p q : ByteArray} (hx : ev e x = some (.string p)) (hy : ev e y = some (.string q)) : Val P N e G L ⟨some d, .binOp .neq t x y t', ty, pos, af, g⟩ (.bool (!(p.data.toList == q.data.toList))) := by
  rw [← toList_data, ← toList_data]; exact Val.neS hx hy
end
end Go.Proofs.Ythlhmoocgjddpaa.Sy
set_option linter.unusedVariables false
set_option linter.unusedSimpArgs false
namespace Go.Proofs.Ythlhmoocgjddpaa.Sy
open Go Go.RowKit Go.Proofs.YthlhmoocgjddpaaW.PrintWords
/-- An address in a plain row. -/
def Pl (A : Option Addr) : Prop := ∀ ad, A = some ad → ad.spot = none
theorem Pl.lit (b o : Nat) : Pl (some ⟨b, o, none⟩) := fun ad h => by cases h; rfl
theorem Pl.nil : Pl none := fun ad h => by cases h
theorem Row.pl {α : Type} {k : Kd α} {el cp n B : Nat} {A : Option Addr} {xs : List α} {G' : Gd} (h : ∀ W, G'.ok W → ∃ F, (Row k el (.slice A n cp) xs).holds B W F) : Pl A := fun ad hA => by
  obtain ⟨F, hF⟩ := h G'.W0 G'.self
  obtain ⟨_, inner, ⟨_, hv⟩, _⟩ := hF
  rcases hv with ⟨hn, _⟩ | ⟨b, cap, cur, hn, _⟩
  · injection hn with h1 _ _; rw [hA] at h1; cases h1
  · injection hn with h1 _ _; rw [hA] at h1; cases h1; rfl
theorem Rd.cells {α : Type} {G : Gd} {d : Kd α} {A : Option Addr} {xs : List α} (h : Rd G d A xs) (W : World) (hW : G.ok W) : ∀ (j : Nat) x, xs[j]? = some x → ∃ ad c, A = some ad ∧ c.length = d.sz ∧ d.K W x c ∧ ∀ i u, c[i]? = some u → W.cell? (ad.add (j * d.sz + i)) = some u := fun j x hx => by
  obtain ⟨h1, h2, h3⟩ := h W hW
  have hlt := (List.getElem?_eq_some_iff.1 hx).1
  obtain ⟨ad, hA, hf⟩ := h3 (by omega)
  obtain ⟨c, hl, hK, hc⟩ := hf j x hx
  exact ⟨ad, c, hA, hl, hK, hc⟩
section
variable {P : Program} {r : Option Nat} {ops : Array Oper} {Q Q' : Exit → Act → World → Prop} {N : Nd} {e : Env} {G : Gd} {L L' : List Ch} {K : Act → World → Prop} {c : Code}
variable {d : Nat} {ty : TypeId} {pos : String} {af : Array Edge} {g : Option (Nat × Bool)} {x y : Operand} {t t' : TypeId}
end
end Go.Proofs.Ythlhmoocgjddpaa.Sy
set_option linter.unusedVariables false
set_option linter.unusedSimpArgs false
namespace Go.Proofs.Ythlhmoocgjddpaa.Sy
open Go Go.RowKit Go.Proofs.YthlhmoocgjddpaaW.PrintWords
/-- Two blocks that differ in numbers alone. -/
def Ali (x y : Option Obj) : Prop := ∃ (a b : Array Value) (T : Nat), x = some (.cells a T (0, 0)) ∧ y = some (.cells b T (0, 0)) ∧ a.size = b.size ∧ ∀ (i : Nat) u, a[i]? = some u → b[i]? = some u ∨ ∃ k m n, u = .int k m ∧ b[i]? = some (.int k n)
theorem Ali.refl {a : Array Value} {T : Nat} {x : Option Obj} (h : x = some (.cells a T (0, 0))) : Ali x x := ⟨a, a, T, h, h, rfl, fun i u hi => .inl hi⟩
/-- Blocks S as_ they were in W0, but for numbers. -/
def Alk (W0 : World) (S : Nat → Prop) : Ch where
  holds B W F := ∀ k, S k → F k ∧ B ≤ k ∧ k < W.heap.size ∧ Ali W0.heap[k]? W.heap[k]?
  move hm h := fun k hk => by
    obtain ⟨a, b, c, d⟩ := h k hk
    have e := hm k a c
    refine ⟨a, b, ?_, by rw [e]; exact d⟩
    rw [Array.getElem?_eq_getElem c] at e
    exact (Array.getElem?_eq_some_iff.1 e).1
  wide h hh := fun k hk => ⟨h k (hh k hk).1, (hh k hk).2⟩
  bound hh := fun k hk => ⟨⟨(hh k hk).1, (hh k hk).2.1, (hh k hk).2.2.1⟩, (hh k hk).2⟩
/-- An element of such a row. -/
theorem RA.at {α : Type} {k : Kd α} {el n c B : Nat} {W0 : World} {S : Nat → Prop} {A : Option Addr} {xs : List α} {i : Int} {y : α} (h : k.R el W0 B S (.slice A n c) xs) (hx : at? xs i = some y) :
    ∃ b cs, A = some ⟨b, 0, none⟩ ∧ 0 ≤ i ∧ i < (n : Int) ∧ S b ∧ k.M W0 B S y cs ∧ ∀ j u, cs[j]? = some u → W0.cell? ⟨b, i.toNat * k.sz + j, none⟩ = some u := by
  have hi : 0 ≤ i ∧ xs[i.toNat]? = some y := by
    unfold at? at hx
    split at hx
    · rename_i h0; exact ⟨h0, hx⟩
    · cases hx
  have hlt := (List.getElem?_eq_some_iff.1 hi.2).1
  obtain ⟨hn, hnc, _⟩ := Kd.R_reads' h
  have hb : ∃ b, A = some ⟨b, 0, none⟩ := by
    obtain ⟨_, inner, ⟨_, hv⟩, _⟩ := h
    rcases hv with ⟨he, h0⟩ | ⟨b, cap, cur, he, _⟩
    · omega
    · injection he with h1 h2 _; exact ⟨b, h1⟩
  obtain ⟨b, rfl⟩ := hb
  obtain ⟨cs, hl, hM, hc, _⟩ := Kd.R_elem h y i hi.1 (by omega)
  rw [List.getD_eq_getElem?_getD, hi.2] at hM
  exact ⟨b, cs, rfl, hi.1, by omega, h.1 b (by simp [Value.ownBlock]), k.M_mono (fun _ hk => hk.1) hM, hc⟩
section
variable {P : Program} {r : Option Nat} {ops : Array Oper} {Q Q' : Exit → Act → World → Prop} {N : Nd} {e : Env} {G : Gd} {L L' : List Ch} {K : Act → World → Prop} {c : Code} {X : Exit}
variable {d : Nat} {ty : TypeId} {pos : String} {af : Array Edge} {g : Option (Nat × Bool)} {x y : Operand}
end
end Go.Proofs.Ythlhmoocgjddpaa.Sy
set_option linter.unusedVariables false
set_option linter.unusedSimpArgs false
namespace Go.Proofs.Ythlhmoocgjddpaa.Sy
open Go Go.RowKit Go.Proofs.YthlhmoocgjddpaaW.PrintWords
def clrL (xs : List Int) (l h : Int) : List Int := xs.take l.toNat ++ List.replicate (h.toNat - l.toNat) 0 ++ xs.drop h.toNat
def cpyL (xs : List Int) (l h : Int) (ys : List Int) : List Int := xs.take l.toNat ++ ys.take (h.toNat - l.toNat) ++ xs.drop (l.toNat + (ys.take (h.toNat - l.toNat)).length)
section
variable {P : Program} {r : Option Nat} {ops : Array Oper} {Q Q' : Exit → Act → World → Prop} {N : Nd} {e : Env} {G : Gd} {L L' : List Ch} {K : Act → World → Prop} {c : Code}
variable {d : Nat} {ty : TypeId} {pos : String} {af : Array Edge} {g : Option (Nat × Bool)} {x y : Operand}
end
end Go.Proofs.Ythlhmoocgjddpaa.Sy
set_option linter.unusedVariables false
set_option linter.unusedSimpArgs false
namespace Go.Proofs.Ythlhmoocgjddpaa.Sy
open Go Go.RowKit Go.Proofs.YthlhmoocgjddpaaW.PrintWords
section
variable {P : Program} {r : Option Nat} {ops : Array Oper} {Q Q' : Exit → Act → World → Prop} {N : Nd} {e : Env} {G : Gd} {L L' : List Ch} {K : Act → World → Prop} {c : Code}
variable {d : Nat} {ty : TypeId} {pos : String} {af : Array Edge} {g : Option (Nat × Bool)} {x y : Operand}
theorem TL.appendE {α : Type} (k : Kd α) {t el bytes b cp m : Nat} {z : Value} {A : Option Addr} {xs ys : List α} {cs : List Value} (hw : Wt ops e ⟨some d, .call ⟨.builtin .append, #[x, y], #[t, t]⟩, ty, pos, af, g⟩ = some true) (hd : Nat.blt d N.n = true)
    (ht : P.underlying t = some (.slice el)) (hinfo : (P.info? el).map (fun i => (i.zero, i.size, i.bytes)) = some (some z, k.sz, bytes)) (hz : z.cells.size = k.sz) (hs0 : 0 < k.sz) (hb0 : 0 < bytes) (hx : ev e x = some (.slice A xs.length cp)) (hy : ev e y = some (.slice (some ⟨b, 0, none⟩) m m)) (hm : ys.length = m) (hl : (xs.length + m) * bytes ≤ 140737488355328)
    (kk : ∀ A' c', TK K N ((d, .slice A' (xs ++ ys).length c') :: e) G (Row k el (.slice A' (xs ++ ys).length c') (xs ++ ys) :: L)) :
    TO P r ops Q K N ⟨some d, .call ⟨.builtin .append, #[x, y], #[t, t]⟩, ty, pos, af, g⟩ e G (Row k el (.slice A xs.length cp) xs :: Els k ys cs :: Blk b cs el :: L) := fun a W hF hO => by
  subst hm
  obtain ⟨i0, hi, hzz⟩ := Option.map_eq_some_iff.1 hinfo
  simp only [Prod.mk.injEq] at hzz
  obtain ⟨hz0, hz1, hz2⟩ := hzz
  have hblk := hO.blk (i := 2) rfl
  have hlen : xs.length + ys.length ≤ 140737488355328 := Nat.le_trans (Nat.le_mul_of_pos_right _ hb0) hl
  obtain ⟨v, W', hr, hO'⟩ := hO.ex (β := Value) (c' := fun v => Row k el v (xs ++ ys)) (R := fun v W' => (Builtin.append_ #[t, t] ty #[.slice A xs.length cp, .slice (some ⟨b, 0, none⟩) ys.length ys.length]).run P W = .ok v W') (fun F1 F2 hdj h1 h2 hB => by
    obtain ⟨g0, inner, hown, hre⟩ := h1
    have h2' : Reps (k.M W G.B F2) k.sz ys cs := h2
    have hone : ∀ u ∈ cs, u.oneCell' = true := by
      intro u hu
      obtain ⟨q, hq, rfl⟩ := List.mem_iff_getElem.1 hu
      have hql : q / k.sz < ys.length := by
        rw [Nat.div_lt_iff_lt_mul hs0, ← h2'.1]
        exact hq
      have hc := h2'.2 (q / k.sz) _ (List.getElem?_eq_getElem hql)
      refine k.K_one (k.K_of_M hc) _ ?_
      rw [List.mem_iff_getElem?]
      refine ⟨q % k.sz, ?_⟩
      rw [List.getElem?_take, if_pos (Nat.mod_lt _ hs0), List.getElem?_drop, Nat.mul_comm, Nat.div_add_mod, List.getElem?_eq_getElem hq]
    obtain ⟨v', w', hr, q1, q2, _, q3⟩ := run_append_own_at (P := P) W G.B t ty el i0 z k.sz bytes ht hi hz0 hz1 hz2 hz hs0 _ xs.length inner hown ⟨b, 0, none⟩ ys.length ys.length cs h2'.1
      (fun j u hj => by rw [add_blk, blk_cell hblk]; simpa using hj) hone (by unfold maxLen; omega) hl hB
    have hat : v'.ownBlock = (Value.slice A xs.length cp).ownBlock ∨ ∃ q, v'.ownBlock = some q ∧ W.heap.size ≤ q := q3.imp id (fun h => ⟨_, h, Nat.le_refl _⟩)
    have hne : ∀ j, some j ≠ (Value.slice A xs.length cp).ownBlock → j < W.heap.size → some j ≠ v'.ownBlock := fun j hj hlt => by
      rcases hat with hat | ⟨q, hb, hle⟩
      · rw [hat]; exact hj
      · rw [hb]; intro he; injection he with he; omega
    have stp : ∀ {p : α} {cs : List Value} {ok : Nat → Prop}, k.M W G.B ok p cs → (∀ j, ok j → (F1 j ∨ F2 j ∨ W.heap.size ≤ j) ∧ some j ≠ (Value.slice A xs.length cp).ownBlock) → k.M w' G.B (fun j => (F1 j ∨ F2 j ∨ W.heap.size ≤ j) ∧ some j ≠ v'.ownBlock) p cs := fun hp hok =>
      k.M_mono (fun j hj => ⟨(hok j hj.1).1, hne j (hok j hj.1).2 hj.2.2.1⟩) (k.M_move (w1 := w') (fun j hj => q2.block j hj.2.2.1 (hok j hj.1).2) (k.M_bound hp))
    refine ⟨v', w', hr, q2.os, q2.tape, q2.output, q2.size, ⟨fun j hj => ?_, inner ++ cs, by rw [List.length_append]; exact q1, Kd.reps_append (hre.imp_ (fun _ _ hp => stp hp (fun j hj => ⟨.inl hj.1, hj.2⟩))) (h2'.imp_ (fun _ _ hp => stp hp (fun j hj => ⟨.inr (.inl hj), fun he => hdj j (g0 j he.symm) hj⟩)))⟩, fun j hj hn1 _ => q2.block j hj (fun he => hn1 (g0 j he.symm))⟩
    rcases hat with hat | ⟨q, hb, hle⟩
    · exact .inl (g0 j (hat ▸ hj))
    · rw [hb] at hj; injection hj with hj; exact .inr (.inr (by omega)))
  obtain ⟨A', c', rfl⟩ : ∃ A' c', v = .slice A' (xs ++ ys).length c' := by
    obtain ⟨ok, B, os, tape, out, fp, ha, _⟩ := hO'
    exact Kd.R_slice (ha 0 _ rfl)
  refine step_value (v := .slice A' (xs ++ ys).length c') (W' := W') (Wt.of hw hF) (by simp) (by simp [execOp, resolve, hF.ev hx, hF.ev hy, invoke, builtin, hr]) (kk A' c' _ _ (hF.put hd _) (hO'.selT (Ls := [_]) [0] 2 rfl rfl rfl))
end
end Go.Proofs.Ythlhmoocgjddpaa.Sy
set_option linter.unusedVariables false
set_option linter.unusedSimpArgs false
namespace Go.Proofs.Ythlhmoocgjddpaa.Sy
open Go Go.RowKit Go.Proofs.YthlhmoocgjddpaaW.PrintWords Go.Sort
def strings_Join.f (a0 : List ByteArray) (a1 : ByteArray) : Option ByteArray := if a0.length ≤ 140737488355328 ∧ (Lib.join (a0.map (·.data.toList)) a1.data.toList).length ≤ 140737488355328 then some ⟨(Lib.join (a0.map (·.data.toList)) a1.data.toList).toArray⟩ else none
def strings_Join.post (G : Gd) (r : ByteArray) (v : Value) (G' : Gd) (Lr : List Ch) : Prop := G = G' ∧ v = .string r ∧ Lr = []
theorem strings_Join.calls {G : Gd} {r : ByteArray} {a0 : List ByteArray} {a1 : ByteArray} {A1 : Option Addr} {c2 : Nat} (hp : Pl A1) (hr : Rd G Kd.string A1 a0) (hl : a0.length ≤ c2) (h : strings_Join.f a0 a1 = some r) : Fn Try.prog 21 G [] [.slice A1 a0.length c2, .string a1] (strings_Join.post G r) := fun L W hO => by
  unfold strings_Join.f at h
  obtain ⟨⟨h0, h1⟩, h⟩ := ite_no h
  obtain rfl := Option.some.inj h
  cases a0 with
  | nil =>
    refine (Try.strings_Join_none A1 c2 a1 W).mono ?_
    rintro en W' ⟨rfl, rfl⟩
    exact ⟨_, G, [], rfl, Gd.le.refl _, ⟨rfl, rfl, rfl⟩, hO⟩
  | cons x xs =>
    obtain ⟨ad, c, hA, _⟩ := Rd.cells hr W hO.ok 0 x rfl
    obtain ⟨bk, o, sp⟩ := ad
    obtain rfl : sp = none := hp _ hA
    subst hA
    have hcells : ∀ (j : Nat) y, (x :: xs)[j]? = some y → W.cell? ⟨bk, o + j, none⟩ = some (.string y) := fun j y hy => by
      obtain ⟨ad, c, hA, hlen, hK, hc⟩ := Rd.cells hr W hO.ok j y hy
      obtain rfl := Option.some.inj hA
      obtain rfl : c = [.string y] := hK
      have := hc 0 _ rfl
      rw [add_blk] at this
      have hz : j * Kd.string.sz + 0 = j := by show j * 1 + 0 = j; omega
      rw [hz] at this
      exact this
    have hbk : bk < W.heap.size := World.block_lt_of_cell? _ _ (hcells 0 x rfl)
    refine (Try.strings_Join bk o c2 (x :: xs) a1 W hcells hbk h0 hl h1).mono ?_
    rintro en W' ⟨rfl, hb⟩
    exact ⟨_, G, [], rfl, Gd.le.refl _, ⟨rfl, rfl, rfl⟩, hO.below hb⟩
end Go.Proofs.Ythlhmoocgjddpaa.Sy
set_option linter.unusedVariables false
set_option linter.unusedSimpArgs false
namespace Go.Proofs.Ythlhmoocgjddpaa.Sy
open Go Go.RowKit Go.Shelf Go.Proofs.YthlhmoocgjddpaaW.PrintWords
variable {P : Program} {ρ : Ren}
/-- A builder's two cells, and the bytes of its own. -/
def BAt (T U B b : Nat) (p v : Value) (s : ByteArray) (W : World) : Prop :=
  (p = .pointer none ∨ p = .pointer (some ⟨b, 0, none⟩)) ∧ W.heap[b]? = some (.cells #[p, v] T (0, 0)) ∧ W.ownsRow B U 1 v s.size (Lib.strCells s) ∧ v.ownBlock ≠ some b ∧ (v = .slice none 0 0 ∨ 0 < s.size)
theorem owns_move {W W' : World} {B U n : Nat} {v : Value} {xs : List Value} (h : W.ownsRow B U 1 v n xs) (hk : ∀ k, v.ownBlock = some k → W'.heap[k]? = W.heap[k]?) : W'.ownsRow B U 1 v n xs := by
  obtain ⟨h1, h2⟩ := h
  refine ⟨h1, h2.imp id ?_⟩
  rintro ⟨g, cap, cur, rfl, r0, r1, r2⟩
  exact ⟨g, cap, cur, rfl, r0, by rw [hk g rfl]; exact r1, r2⟩
/-- A builder as_ a part of memory. -/
def Bld (T U b : Nat) (s : ByteArray) : Ch where
  holds B W F := F b ∧ B ≤ b ∧ ∃ p v : Value, BAt T U B b p v s W ∧ ∀ k, v.ownBlock = some k → F k
  move hm k := by
    obtain ⟨h1, h2, p, v, ⟨a1, a2, a3, a4, a5⟩, h3⟩ := k
    have hlt : ∀ k, v.ownBlock = some k → k < _ := fun k hk => (a3.lt k hk).2
    exact ⟨h1, h2, p, v, ⟨a1, (hm b h1 (blk_lt a2)).trans a2, owns_move a3 (fun k hk => hm k (h3 k hk) (hlt k hk)), a4, a5⟩, h3⟩
  wide h k := by
    obtain ⟨h1, h2, p, v, a, h3⟩ := k
    exact ⟨h b h1, h2, p, v, a, fun k hk => h k (h3 k hk)⟩
  bound k := by
    obtain ⟨h1, h2, p, v, ⟨a1, a2, a3, a4, a5⟩, h3⟩ := k
    exact ⟨⟨h1, h2, blk_lt a2⟩, h2, p, v, ⟨a1, a2, a3, a4, a5⟩, fun k hk => ⟨h3 k hk, (a3.lt k hk).1, (a3.lt k hk).2⟩⟩
/-- What else stays as_ it was. -/
structure Rest (W W' : World) (b : Nat) (row : Option Nat) : Prop where
  os : W'.os = W.os
  tape : W'.tape = W.tape
  output : W'.output = W.output
  size : W.heap.size ≤ W'.heap.size
  block : ∀ k, k < W.heap.size → k ≠ b → some k ≠ row → W'.heap[k]? = W.heap[k]?
theorem setCell_heap {W : World} {b j : Nat} {cs : Array Value} {T : Nat} (v : Value) (h : W.heap[b]? = some (.cells cs T (0, 0))) : (W.setCell ⟨b, j, none⟩ v).heap[b]? = some (.cells (cs.setIfInBounds j v) T (0, 0)) := by
  simp [World.setCell, Array.getElem?_modify, h]
theorem setCell_other {W : World} {b j k : Nat} (v : Value) (h : k ≠ b) : (W.setCell ⟨b, j, none⟩ v).heap[k]? = W.heap[k]? := by
  simp only [World.setCell, Array.getElem?_modify]
  rw [if_neg (fun e => h e.symm)]
theorem setCell_rest {W : World} {b j : Nat} (v : Value) (row : Option Nat) : Rest W (W.setCell ⟨b, j, none⟩ v) b row := ⟨rfl, rfl, rfl, by simp [World.setCell], fun k _ hk _ => setCell_other v hk⟩
theorem freeze_rest {W : World} {b g : Nat} {cur : Array Value} {U : Nat} {row : Option Nat} (hg : W.heap[g]? = some (.cells cur U (0, 0))) (m : Nat) (hr : row = some g) : Rest W (W.drew.freeze ⟨g, 0, none⟩ m) b row := by
  subst hr
  unfold World.freeze
  split
  · exact ⟨rfl, rfl, rfl, Nat.le_refl _, fun _ _ _ _ => rfl⟩
  · refine ⟨rfl, rfl, rfl, by simp, fun k hk hb hn => ?_⟩
    simp only [Array.getElem?_modify]
    rw [if_neg (fun e => hn (by rw [e]))]
    rfl
/-- copyCheck, in whatever state. -/
theorem bld_check (L : Lays.n240 P ρ) (X : Builder.X72 P ρ) {U B b : Nat} {p v : Value} {s : ByteArray} {W : World} (h : BAt (ρ.t 72) U B b p v s W) :
    Calls P (ρ.f 240) #[.pointer (some ⟨b, 0, none⟩)] W fun e W' => e = .returned (.tuple #[]) ∧ BAt (ρ.t 72) U B b (.pointer (some ⟨b, 0, none⟩)) v s W' ∧ Rest W W' b none := by
  obtain ⟨hp, hb, ho, hne, hz⟩ := h
  have c0 : W.cell? ⟨b, 0, none⟩ = some p := by rw [Lib.cell_of_heap hb]; rfl
  rcases hp with rfl | rfl
  · refine (Any.Builder_copyCheck_fresh L X b W c0 (by simp [World.shape?, hb]) (Lib.frozen_of_heap hb 0)).mono ?_
    rintro e W' ⟨rfl, rfl⟩
    refine ⟨rfl, ⟨.inr rfl, by rw [setCell_heap _ hb]; rfl, owns_move ho (fun k hk => setCell_other _ (fun he => hne (by rw [hk, he]))), hne, hz⟩, setCell_rest _ _⟩
  · refine (Any.Builder_copyCheck_used L X b W c0).mono ?_
    rintro e W' ⟨rfl, rfl⟩
    exact ⟨rfl, ⟨.inr rfl, hb, ho, hne, hz⟩, ⟨rfl, rfl, rfl, Nat.le_refl _, fun _ _ _ _ => rfl⟩⟩
/-- Where a string's bytes went: into the row that was, or into a new one. -/
theorem append_at {w w' : World} {base n : Nat} {t u ty e : TypeId} {i : TypeInfo} {v v' : Value} {xs : List Value} {s : ByteArray} (ht : P.underlying t = some (.slice e)) (hu : P.underlying u = some .string) (hi : P.info? e = some i) (hz : i.zero = some (.int .u8 0)) (hsize : i.size = 1) (hby : i.bytes = 1)
    (hown : w.ownsRow base e 1 v n xs) (hl : n + s.size ≤ 140737488355328) (hr : (Builtin.append_ #[t, u] ty #[v, .string s]).run P w = .ok v' w') : v'.ownBlock = v.ownBlock ∨ v'.ownBlock = some w.heap.size := by
  have hxl : xs.length = n := by simpa using hown.1
  rcases hown.2 with ⟨rfl, rfl⟩ | ⟨g, cap, cur, rfl, _, hg, hnc, hcm, hcs, htake⟩
  · by_cases hm : s.size = 0
    · have hf := Lib.run_firstCells_string (P := P) w 1 s
      rw [hm] at hf
      simp [Builtin.append_, run_underlying ht, run_underlying hu, sizeOf, typeInfo, hi, hsize, Builtin.lenOf, hm, hf] at hr
      exact .inl (by rw [← hr.1])
    · have h2 := run_append_nil_string (P := P) w t u ty e i (.int .u8 0) ht hu hi hz s (by omega) (by omega) (by rw [hby]; omega)
      rw [h2] at hr
      injection hr with hr _
      exact .inr (by rw [← hr]; rfl)
  · have hcs' : cur.size = cap := by simpa using hcs
    by_cases hroom : n + s.size ≤ cap
    · have h2 := Lib.run_append_room_string (P := P) w t u ty e i ht hu hi hsize g n cap cur hg s hroom (by omega)
      rw [h2] at hr
      injection hr with hr _
      exact .inl (by rw [← hr]; rfl)
    · have hc : ∀ j u, xs[j]? = some u → w.cell? ((⟨g, 0, none⟩ : Addr).add j) = some u := hown.cells (g := g) rfl
      have h2 := Lib.run_append_grow_string (P := P) w t u ty e i (.int .u8 0) ht hu hi hz ⟨g, 0, none⟩ n cap xs (by rw [hsize]; simpa using hxl) hc s (by omega) (by omega) (by rw [hby]; exact growslice_fits (by omega) (by omega))
      rw [h2] at hr
      injection hr with hr _
      exact .inr (by rw [← hr]; rfl)
/-- The operation, for the walk. -/
theorem wp_append {ops : Array Oper} {rest : List Oper} {o : Oper} {a : Act} {Q : Exit → Act → World → Prop} {w : World} (hgd : o.guard = none) {sl x : Operand} {t u : TypeId} (ho : o.op = .call { callee := .builtin .append, args := #[sl, x], argTypes := #[t, u] })
    {base n : Nat} {e : TypeId} {i : TypeInfo} (ht : P.underlying t = some (.slice e)) (hu : P.underlying u = some .string) (hi : P.info? e = some i) (hz : i.zero = some (.int .u8 0)) (hsize : i.size = 1) (hby : i.bytes = 1)
    {v : Value} {xs : List Value} {s : ByteArray} (hs : a.eval sl = v) (hx : a.eval x = .string s) (hown : w.ownsRow base e 1 v n xs) (hl : n + s.size ≤ 140737488355328) (hbase : base ≤ w.heap.size)
    (h : ∀ v' w', w'.ownsRow base e 1 v' (n + s.size) (xs ++ Lib.strCells s) → w.grownBy w' v.ownBlock → (v' = .slice none 0 0 ↔ v = .slice none 0 0 ∧ s.size = 0) → (v'.ownBlock = v.ownBlock ∨ v'.ownBlock = some w.heap.size) → wpList P ops Q rest (a.put o.dst v') w') : wpList P ops Q (o :: rest) a w := by
  obtain ⟨v', w', hr, h2, h3, h4⟩ := Lib.run_append_own_string (P := P) w base t u o.type e i ht hu hi hz hsize hby v n xs hown s (by unfold maxLen; omega) hl hbase
  refine wpList_plain hgd fun K hK => ?_
  have h5 := hK _ _ (h v' w' h2 h3 h4 (append_at ht hu hi hz hsize hby hown hl hr))
  unfold Oper.wp execOp
  simp only [ho, resolve, invoke, builtin, Sem.run_bind, Sem.run_pure, Result.andThen_ok, List.map_toArray, List.map_cons, List.map_nil, hs, hx, hr]
  exact h5
theorem strCells_cat (s t : ByteArray) : Lib.strCells (cat s t) = Lib.strCells s ++ Lib.strCells t := by simp [Lib.strCells, cat]
theorem size_cat (s t : ByteArray) : (cat s t).size = s.size + t.size := by
  show ((s.data.toList ++ t.data.toList).toArray).size = s.data.size + t.data.size
  simp
set_option maxHeartbeats 2000000 in
set_option maxRecDepth 100000 in
theorem bld_write (L : Lays.n166 P ρ) (X : Builder.Extra P ρ) {B b : Nat} {p v : Value} {s t : ByteArray} {W : World} (h : BAt (ρ.t 72) (ρ.t 5) B b p v s W) (hl : s.size + t.size ≤ 140737488355328) (hB : B ≤ W.heap.size) :
    Calls P (ρ.f 166) #[.pointer (some ⟨b, 0, none⟩), .string t] W fun e W' => e = .returned (.tuple #[.int .i64 t.size, .nilIface]) ∧ ∃ v', BAt (ρ.t 72) (ρ.t 5) B b (.pointer (some ⟨b, 0, none⟩)) v' (cat s t) W' ∧ Rest W W' b v.ownBlock ∧ (v'.ownBlock = v.ownBlock ∨ ∀ k, v'.ownBlock = some k → W.heap.size ≤ k) := by
  obtain ⟨i0, hi, hz0, hz1, hz2⟩ := info_parts X.infoByte
  have mixed := L.mixed
  have t72 := L.t72; have a72 := L.a72; have z72 := L.z72; have v72 := L.v72; have u72 := run_underlying L.t72
  have t70 := L.t70; have a70 := L.a70; have z70 := L.z70; have v70 := L.v70; have u70 := run_underlying L.t70
  have t37 := L.t37; have a37 := L.a37; have z37 := L.z37; have v37 := L.v37; have u37 := run_underlying L.t37
  have t3 := L.t3; have a3 := L.a3; have z3 := L.z3; have v3 := L.v3; have u3 := run_underlying L.t3
  have t9 := L.t9; have a9 := L.a9; have z9 := L.z9; have v9 := L.v9; have u9 := run_underlying L.t9
  have t4 := L.t4; have a4 := L.a4; have z4 := L.z4; have v4 := L.v4; have u4 := run_underlying L.t4
  have t164 := L.t164; have a164 := L.a164; have z164 := L.z164; have v164 := L.v164; have u164 := run_underlying L.t164
  have t5 := X.t5; have a5 := X.a5; have z5 := X.z5; have v5 := X.v5; have u5 := run_underlying X.t5
  have e240 : ∀ args w, (callFunc (ρ.f 240) args).run P w = .ok (.enter (ρ.f 240) args) w := enters_of L.f240 (by kernel_rfl) rfl
  go_enter L.f166, Body.n166_ntmps ρ
  go_wp2_with (go_at_fn (ρ.f 240); refine (bld_check { L with } X.toX72 h).mono ?_)
  rintro e w1 ⟨rfl, ⟨_, hbk, hown, hne, hnil⟩, hr1⟩
  have c1 : w1.cell? ⟨b, 1, none⟩ = some v := by rw [Lib.cell_of_heap hbk]; rfl
  go_wp2_with (at_builtin; refine wp_append (t := ρ.t 37) (u := ρ.t 9) rfl rfl L.t37 L.t9 hi hz0 hz1 hz2 rfl rfl hown hl (by have := hr1.size; omega) ?_)
  intro v' w2 hown' hgrow hnil' hwhere
  have hb2 : w2.heap[b]? = some (.cells #[.pointer (some ⟨b, 0, none⟩), v] (ρ.t 72) (0, 0)) := by
    rw [hgrow.block b (blk_lt hbk) (fun e => hne e.symm)]
    exact hbk
  have d1 : w2.cell? ⟨b, 1, none⟩ = some v := by rw [Lib.cell_of_heap hb2]; rfl
  have f1 : w2.frozen? ⟨b, 1, none⟩ = false := Lib.frozen_of_heap hb2 1
  obtain ⟨ao, n', cap, rfl⟩ : ∃ ao n' cap, v' = .slice ao n' cap := by
    rcases hown'.2 with ⟨hv, _⟩ | ⟨g, cap, cur, hv, _⟩
    · exact ⟨_, _, _, hv⟩
    · exact ⟨_, _, _, hv⟩
  go_wp2
  go_ret2
  have hown2 : w2.ownsRow B (ρ.t 5) 1 (.slice ao n' cap) (cat s t).size (Lib.strCells (cat s t)) := by rw [size_cat, strCells_cat]; exact hown'
  have hw2 : ∀ k, (Value.slice ao n' cap).ownBlock = some k → k ≠ b := fun k hk he => by
    subst he
    rcases hown2.2 with ⟨hv, _⟩ | ⟨g, cap', cur, hv, _, hg, _⟩
    · rw [hv] at hk; simp [Value.ownBlock] at hk
    · rw [hv] at hk
      simp [Value.ownBlock] at hk
      rw [hk, hb2] at hg
      injection hg with hg
      injection hg with _ hg _
      exact X.neB5 hg
  refine ⟨rfl, .slice ao n' cap, ⟨.inr rfl, by rw [setCell_heap _ hb2]; rfl, owns_move hown2 (fun k hk => setCell_other _ (hw2 k hk)), fun he => hw2 b he rfl, ?_⟩, ?_, ?_⟩
  · by_cases hs0 : (cat s t).size = 0
    · rw [size_cat] at hs0
      have ht0 : t.size = 0 := Nat.eq_zero_of_add_eq_zero_left hs0
      have hs1 : s.size = 0 := Nat.eq_zero_of_add_eq_zero_right hs0
      refine .inl (hnil'.2 ⟨?_, ByteArray.ext (Array.eq_empty_of_size_eq_zero ht0)⟩)
      rcases hnil with h | h
      · exact h
      · rw [hs1] at h; exact absurd h (Nat.lt_irrefl _)
    · exact .inr (by omega)
  · exact ⟨(hgrow.os).trans hr1.os, (hgrow.tape).trans hr1.tape, (hgrow.output).trans hr1.output, by have := hr1.size; have := hgrow.size; simp [World.setCell]; omega, fun k hk h1 h2 => (setCell_other _ h1).trans ((hgrow.block k (by have := hr1.size; omega) h2).trans (hr1.block k hk h1 (by simp)))⟩
  · rcases hwhere with h | h
    · exact .inl h
    · exact .inr (fun k hk => by rw [h] at hk; injection hk with hk; have := hr1.size; omega)
set_option maxHeartbeats 2000000 in
set_option maxRecDepth 100000 in
theorem bld_string (L : Lays.n169 P ρ) (X : Builder.Extra P ρ) {B b : Nat} {p v : Value} {s : ByteArray} {W : World} (h : BAt (ρ.t 72) (ρ.t 5) B b p v s W) :
    Calls P (ρ.f 169) #[.pointer (some ⟨b, 0, none⟩)] W fun e W' => e = .returned (.string s) ∧ Rest W W' b v.ownBlock := by
  obtain ⟨hp, hb, hown, hne, hnil⟩ := h
  have mixed := L.mixed
  have t72 := L.t72; have a72 := L.a72; have z72 := L.z72; have v72 := L.v72; have u72 := run_underlying L.t72
  have t70 := L.t70; have a70 := L.a70; have z70 := L.z70; have v70 := L.v70; have u70 := run_underlying L.t70
  have t37 := L.t37; have a37 := L.a37; have z37 := L.z37; have v37 := L.v37; have u37 := run_underlying L.t37
  have t127 := L.t127; have a127 := L.a127; have z127 := L.z127; have v127 := L.v127; have u127 := run_underlying L.t127
  have t3 := L.t3; have a3 := L.a3; have z3 := L.z3; have v3 := L.v3; have u3 := run_underlying L.t3
  have t9 := L.t9; have a9 := L.a9; have z9 := L.z9; have v9 := L.v9; have u9 := run_underlying L.t9
  have t5 := X.t5; have a5 := X.a5; have z5 := X.z5; have v5 := X.v5; have u5 := run_underlying X.t5
  rcases hown.2 with ⟨rfl, h0⟩ | ⟨g, cap, cur, rfl, _, hg, hnc, hcm, hcs, htake⟩
  · have hs : s = .empty := by
      apply ByteArray.ext; apply Array.eq_empty_of_size_eq_zero; exact h0
    subst hs
    have c1 : W.drew.cell? ⟨b, 1, none⟩ = some (.slice none 0 0) := by
      have : W.drew.heap[b]? = some (.cells #[p, .slice none 0 0] (ρ.t 72) (0, 0)) := hb
      rw [Lib.cell_of_heap this]; rfl
    have hSD : (Builtin.unsafeSliceData_ #[(ρ.t 37)] (ρ.t 127) #[.slice none 0 0]).run P W.drew = .ok (.pointer none) W.drew := Lib.run_unsafeSliceData_nil _ _ _ _ _
    have hUS : (Builtin.unsafeString_ #[(ρ.t 127), (ρ.t 3)] (ρ.t 9) #[.pointer none, .int .i64 0]).run P W.drew = .ok (.string .empty) W.drew := Lib.run_unsafeString_none _ _ _ _ _
    go_enter L.f169, Body.n169_ntmps ρ
    go_wp2
    go_region_o
    all_goals (go_wp2; go_ret; exact ⟨rfl, ⟨rfl, rfl, rfl, Nat.le_refl _, fun _ _ _ _ => rfl⟩⟩)
  · have hpos : 0 < s.size := by
      rcases hnil with h | h
      · injection h with h _ _; cases h
      · exact h
    have hsl : s.data.toList.length = s.size := by rw [Array.length_toList]; rfl
    have h0 : s.data.toList ≠ [] := fun e => by rw [e] at hsl; simp at hsl; omega
    have hcs' : cur.size = cap := by simpa using hcs
    have hcells : ∀ j u, (Lib.strCells s)[j]? = some u → W.cell? ((⟨g, 0, none⟩ : Addr).add j) = some u := hown.cells (g := g) rfl
    have c1 : W.drew.cell? ⟨b, 1, none⟩ = some (.slice (some ⟨g, 0, none⟩) s.size cap) := by
      have : W.drew.heap[b]? = some (.cells #[p, .slice (some ⟨g, 0, none⟩) s.size cap] (ρ.t 72) (0, 0)) := hb
      rw [Lib.cell_of_heap this]; rfl
    have hSD : (Builtin.unsafeSliceData_ #[(ρ.t 37)] (ρ.t 127) #[.slice (some ⟨g, 0, none⟩) s.size cap]).run P W.drew = .ok (.pointer (some ⟨g, 0, none⟩)) W.drew :=
      Lib.run_unsafeSliceData_row _ _ _ _ _ _ (by omega)
    have hUS : (Builtin.unsafeString_ #[(ρ.t 127), (ρ.t 3)] (ρ.t 9) #[.pointer (some ⟨g, 0, none⟩), .int .i64 s.size]).run P W.drew = .ok (.string s) (W.drew.freeze ⟨g, 0, none⟩ s.size) := by
      have h1 := Lib.run_unsafeString_row W.drew (ρ.t 127) (ρ.t 3) (ρ.t 9) (ρ.t 5) L.t127 X.cellsByte g cur.size (by have hg' : W.drew.heap[g]? = some (.cells cur (ρ.t 5) (0, 0)) := hg; simp [World.shape?, hg']) s.data.toList h0 (by omega) (by unfold maxLen at hcm; omega) (fun j x hx => hcells j (.int .u8 x.toNat) (by simp only [Lib.strCells, List.getElem?_map, hx, Option.map_some]))
      rw [hsl] at h1
      exact h1
    go_enter L.f169, Body.n169_ntmps ρ
    go_wp2
    go_region_o
    all_goals (go_wp2; go_ret; exact ⟨rfl, freeze_rest hg _ rfl⟩)
/-- WriteString. -/
theorem Bld.write (L : Lays.n166 P ρ) (X : Builder.Extra P ρ) {G : Gd} {b : Nat} {s t : ByteArray} (hl : s.size + t.size ≤ 140737488355328) :
    Fn P (ρ.f 166) G [Bld (ρ.t 72) (ρ.t 5) b s] [.pointer (some ⟨b, 0, none⟩), .string t] (fun v G' Lr => G = G' ∧ v = .tuple #[.int .i64 t.size, .nilIface] ∧ Lr = [Bld (ρ.t 72) (ρ.t 5) b (cat s t)]) := fun L0 W hO => by
  obtain ⟨_, hB, _, _, _, fp, ha, _⟩ := id hO
  obtain ⟨_, _, p, v, hA, _⟩ := ha 0 _ rfl
  refine (bld_write L X hA hl hB).mono ?_
  rintro e W' ⟨rfl, v', hA', hR, hat⟩
  refine ⟨_, G, [Bld (ρ.t 72) (ρ.t 5) b (cat s t)], rfl, Gd.le.refl _, ⟨rfl, rfl, rfl⟩, ?_⟩
  refine hO.step 0 rfl rfl hR.os hR.tape hR.output hR.size (fun F hF hh => ?_)
  obtain ⟨h1, h2, p2, v2, hA2, h3⟩ := hh
  obtain rfl : v2 = v := by
    have := hA2.2.1.symm.trans hA.2.1
    injection this with this
    injection this with this _ _
    have := congrArg (fun a : Array Value => a[1]?) this
    simpa using this
  refine ⟨⟨.inl h1, h2, _, v', hA', fun k hk => ?_⟩, fun k hk hn => hR.block k hk (fun e => hn (e ▸ h1)) (fun e => hn (h3 k e.symm))⟩
  rcases hat with hat | hat
  · exact .inl (h3 k (hat ▸ hk))
  · exact .inr (hat k hk)
/-- String: the last look. -/
theorem Bld.string (L : Lays.n169 P ρ) (X : Builder.Extra P ρ) {G : Gd} {b : Nat} {s : ByteArray} :
    Fn P (ρ.f 169) G [Bld (ρ.t 72) (ρ.t 5) b s] [.pointer (some ⟨b, 0, none⟩)] (fun v G' Lr => G = G' ∧ v = .string s ∧ Lr = []) := fun L0 W hO => by
  obtain ⟨_, _, _, _, _, fp, ha, _⟩ := id hO
  obtain ⟨_, _, p, v, hA, _⟩ := ha 0 _ rfl
  refine (bld_string L X hA).mono ?_
  rintro e W' ⟨rfl, hR⟩
  refine ⟨_, G, [], rfl, Gd.le.refl _, ⟨rfl, rfl, rfl⟩, ?_⟩
  have h2 : Own G (Emp :: L0) W' := by
    refine hO.step 0 rfl rfl hR.os hR.tape hR.output hR.size (fun F hF hh => ?_)
    obtain ⟨h1, h2, p2, v2, hA2, h3⟩ := hh
    obtain rfl : v2 = v := by
      have := hA2.2.1.symm.trans hA.2.1
      injection this with this
      injection this with this _ _
      have := congrArg (fun a : Array Value => a[1]?) this
      simpa using this
    exact ⟨trivial, fun k hk hn => hR.block k hk (fun e => hn (e ▸ h1)) (fun e => hn (h3 k e.symm))⟩
  exact h2.selT (Ls := []) [] 1 rfl rfl rfl
/-- A builder's zero cells are a builder that holds nothing. -/
theorem Bld.new {T U b : Nat} (B : Nat) (W : World) (F : Nat → Prop) (h : (Blk b [.pointer none, .slice none 0 0] T).holds B W F) : (Bld T U b ⟨#[]⟩).holds B W F :=
  ⟨h.1, h.2.1, _, _, ⟨.inl rfl, h.2.2, World.ownsRow_nil _ _ _ _, by simp [Value.ownBlock], .inl rfl⟩, fun k hk => by simp [Value.ownBlock] at hk⟩
theorem builder_write {G : Gd} {b : Nat} {s t : ByteArray} (hl : s.size + t.size ≤ 140737488355328) : Fn Try.prog 22 G [Bld 52 5 b s] [.pointer (some ⟨b, 0, none⟩), .string t] (fun v G' Lr => G = G' ∧ v = .tuple #[.int .i64 t.size, .nilIface] ∧ Lr = [Bld 52 5 b (cat s t)]) :=
  Bld.write (P := Try.prog) (ρ := Try.lays156_ren) { Try.lays156 with } Try.Builder_Extra_156 hl
theorem builder_string {G : Gd} {b : Nat} {s : ByteArray} : Fn Try.prog 23 G [Bld 52 5 b s] [.pointer (some ⟨b, 0, none⟩)] (fun v G' Lr => G = G' ∧ v = .string s ∧ Lr = []) :=
  Bld.string (P := Try.prog) (ρ := Try.lays156_ren) { Try.lays156 with } Try.Builder_Extra_156
end Go.Proofs.Ythlhmoocgjddpaa.Sy
set_option linter.unusedVariables false
set_option linter.unusedSimpArgs false
set_option maxRecDepth 100000
set_option maxHeartbeats 4000000
namespace Go.Proofs.Ythlhmoocgjddpaa.Sy
open Go Go.RowKit Go.Proofs.YthlhmoocgjddpaaW.PrintWords 
/-! #### struct type 24,nested in itself -/
abbrev VI (n : Int) : Value := .int .i64 n
abbrev VP (b o : Nat) : Value := .pointer (some ⟨b, o, none⟩)
abbrev kI : Kd Int := Kd.int .i64
theorem TV {P : Program} {r : Option Nat} {ops : Array Oper} {Q : Exit → Act → World → Prop} {rest : List Oper} {N : Nd} {e : Env} {G : Gd} {L : List Ch} {d : Nat} {op : Op} {ty : TypeId} {pos : String} {af : Array Edge} {g : Option (Nat × Bool)} {v : Value} (hw : Wt ops e ⟨some d, op, ty, pos, af, g⟩ = some true) (hd : Nat.blt d N.n = true) (hnd : isDefer op = false) (hr : Val P N e G L ⟨some d, op, ty, pos, af, g⟩ v) (k : TK (wpListIn (Fw r) 0 P ops Q rest) N ((d, v) :: e) G L) : TL P r ops Q N (⟨some d, op, ty, pos, af, g⟩ :: rest) e G L := TL.cons (TO.val hw hd hnd hr k)
structure S24 where
 f0:Int
 f1:ByteArray
 f2:Int
 f3:(List S24)
def z24:S24:=⟨(0:Int),(⟨#[]⟩:ByteArray),(0:Int),([]:List S24)⟩
def F24 (d:Kd S24):Kd S24:=Kd.iso (Kd.pair kI (Kd.pair Kd.string (Kd.pair kI (Kd.slice 24 d)))) (fun x:S24=>(x.f0,x.f1,x.f2,x.f3))
theorem mono24:Kd.Mono F24:=Kd.mono_iso _ (Kd.mono_pair (Kd.mono_const _) (Kd.mono_pair (Kd.mono_const _) (Kd.mono_pair (Kd.mono_const _) (Kd.mono_slice 24 Kd.mono_id))))
theorem sub24:Kd.Sub F24 [24]:=Kd.sub_iso _ (Kd.sub_pair (Kd.sub_const _ (by decide)) (Kd.sub_pair (Kd.sub_const _ (by decide)) (Kd.sub_pair (Kd.sub_const _ (by decide)) (Kd.sub_slice 24 (by decide) Kd.sub_id))))
theorem sz24:∀ n,(Kd.upto F24 4 [24] n).sz=4:=Kd.upto_sz (fun _=>rfl)
def k24:Kd S24:=Kd.fix F24 4 [24] sz24 (Kd.upto_E sub24)
theorem k24_open {w:World} {x:S24} {cs:List Value} (h:k24.K w x cs):∃ A3 c3,cs=[VI x.f0,.string x.f1,VI x.f2,.slice A3 x.f3.length c3]∧x.f3.length ≤ c3∧k24.C w A3 x.f3.length x.f3:=by
 obtain ⟨n,h⟩:=h
 cases n with
 | zero=>exact h.elim
 | succ n =>
  obtain ⟨_,_,rfl,rfl,⟨_,_,rfl,rfl,⟨_,_,rfl,rfl,⟨A3,c3,rfl,l3,g3⟩⟩⟩⟩:=h
  exact ⟨A3,c3,rfl,l3,Kd.fix_C g3⟩
theorem k24_mkM (w:World) (base:Nat) (ok:Nat → Prop) (x:S24) {v3:Value} (g3:k24.R 24 w base ok v3 x.f3):k24.M w base ok x [VI x.f0,.string x.f1,VI x.f2,v3]:=by
 obtain ⟨n3,q3⟩:=Kd.fix_R_back mono24 g3
 have r3:=Kd.upto_R_le mono24 sz24 (show n3 ≤ n3 by omega) q3
 exact ⟨n3 + 1,⟨[VI x.f0],[.string x.f1,VI x.f2,v3],rfl,rfl,⟨[.string x.f1],[VI x.f2,v3],rfl,rfl,⟨[VI x.f2],[v3],rfl,rfl,⟨v3,rfl,r3⟩⟩⟩⟩⟩
def rd_T24 (xs:List S24) (i:Int):S24:=xs.getD i.toNat z24
/-! #### struct type 41 -/
structure S41 where
 f0:Int
 f1:ByteArray
 f2:Int
def z41:S41:=⟨(0:Int),(⟨#[]⟩:ByteArray),(0:Int)⟩
def k41:Kd S41:=Kd.iso (Kd.pair kI (Kd.pair Kd.string kI)) (fun x:S41=>(x.f0,x.f1,x.f2))
theorem k41_open {w:World} {x:S41} {cs:List Value} (h:k41.K w x cs):cs=[VI x.f0,.string x.f1,VI x.f2]:=by
 obtain ⟨_,_,rfl,rfl,⟨_,_,rfl,rfl,rfl⟩⟩:=h
 exact rfl
theorem k41_mkM (w:World) (base:Nat) (ok:Nat → Prop) (x:S41) :k41.M w base ok x [VI x.f0,.string x.f1,VI x.f2]:=⟨[VI x.f0],[.string x.f1,VI x.f2],rfl,rfl,⟨[.string x.f1],[VI x.f2],rfl,rfl,rfl⟩⟩
def rd_T41 (xs:List S41) (i:Int):S41:=xs.getD i.toNat z41
theorem k24_openR {G:Gd} {x:S24} {cs:List Value} (h:RdK G k24 x cs):∃ A3 c3,cs=[VI x.f0,.string x.f1,VI x.f2,.slice A3 x.f3.length c3]∧Rd G k24 A3 x.f3∧x.f3.length ≤ c3:=by
 obtain ⟨A3,c3,rfl,l3,g3⟩:=k24_open (h G.W0 G.self)
 exact ⟨A3,c3,rfl,(fun W hW=>by obtain ⟨A3',c3',he,l3',g3'⟩:=k24_open (h W hW); injection (Option.some.inj (congrArg (fun l=>l[3]?) he)) with ha_ _ _; rw [ha_]; exact g3'),l3⟩
theorem k41_openR {G:Gd} {x:S41} {cs:List Value} (h:RdK G k41 x cs):cs=[VI x.f0,.string x.f1,VI x.f2]:=k41_open (h G.W0 G.self)
theorem agg3:aggB Try.prog 3=some false:=by kernel_rfl
theorem agg9:aggB Try.prog 9=some false:=by kernel_rfl
theorem agg22:aggB Try.prog 22=some false:=by kernel_rfl
theorem agg24:aggB Try.prog 24=some true:=by kernel_rfl
theorem agg32:aggB Try.prog 32=some false:=by kernel_rfl
theorem agg33:aggB Try.prog 33=some false:=by kernel_rfl
theorem agg41:aggB Try.prog 41=some true:=by kernel_rfl
theorem agg44:aggB Try.prog 44=some false:=by kernel_rfl
theorem agg65:aggB Try.prog 65=some false:=by kernel_rfl
theorem bld24:(match Try.prog.underlying 24 with | some (.struct fs)=>fs.toList.map (fun f=>(Try.prog.info? f.type).map (·.size)) | _=>[])=[1,1,1,1].map some:=by kernel_rfl
theorem bld41:(match Try.prog.underlying 41 with | some (.struct fs)=>fs.toList.map (fun f=>(Try.prog.info? f.type).map (·.size)) | _=>[])=[1,1,1].map some:=by kernel_rfl
theorem bld46:(match Try.prog.underlying 46 with | some (.struct fs)=>fs.toList.map (fun f=>(Try.prog.info? f.type).map (·.size)) | _=>[])=[1].map some:=by kernel_rfl
theorem bld67:(match Try.prog.underlying 67 with | some (.struct fs)=>fs.toList.map (fun f=>(Try.prog.info? f.type).map (·.size)) | _=>[])=[1,1,1].map some:=by kernel_rfl
theorem hbd7:hasBody Try.prog 7=true:=by kernel_rfl
theorem hbd8:hasBody Try.prog 8=true:=by kernel_rfl
theorem hbd9:hasBody Try.prog 9=true:=by kernel_rfl
theorem hbd11:hasBody Try.prog 11=true:=by kernel_rfl
theorem hbd13:hasBody Try.prog 13=true:=by kernel_rfl
theorem hbd15:hasBody Try.prog 15=true:=by kernel_rfl
theorem hbd17:hasBody Try.prog 17=true:=by kernel_rfl
theorem hbd18:hasBody Try.prog 18=true:=by kernel_rfl
theorem hbd19:hasBody Try.prog 19=true:=by kernel_rfl
theorem hbd20:hasBody Try.prog 20=true:=by kernel_rfl
theorem hbd21:hasBody Try.prog 21=true:=by kernel_rfl
theorem hbd22:hasBody Try.prog 22=true:=by kernel_rfl
theorem hbd23:hasBody Try.prog 23=true:=by kernel_rfl
theorem hbd27:hasBody Try.prog 27=true:=by kernel_rfl
theorem hbd28:hasBody Try.prog 28=true:=by kernel_rfl
theorem hbd29:hasBody Try.prog 29=true:=by kernel_rfl
theorem hbd30:hasBody Try.prog 30=true:=by kernel_rfl
theorem hbd31:hasBody Try.prog 31=true:=by kernel_rfl
theorem hbd32:hasBody Try.prog 32=true:=by kernel_rfl
theorem hbd33:hasBody Try.prog 33=true:=by kernel_rfl
theorem hbd34:hasBody Try.prog 34=true:=by kernel_rfl
theorem hbd35:hasBody Try.prog 35=true:=by kernel_rfl
theorem hbd36:hasBody Try.prog 36=true:=by kernel_rfl
theorem hbd37:hasBody Try.prog 37=true:=by kernel_rfl
theorem hbd40:hasBody Try.prog 40=true:=by kernel_rfl
theorem hbd41:hasBody Try.prog 41=true:=by kernel_rfl
theorem hbd42:hasBody Try.prog 42=true:=by kernel_rfl
theorem hbd43:hasBody Try.prog 43=true:=by kernel_rfl
theorem hbd44:hasBody Try.prog 44=true:=by kernel_rfl
theorem hbd45:hasBody Try.prog 45=true:=by kernel_rfl
theorem hbd46:hasBody Try.prog 46=true:=by kernel_rfl
theorem hbd47:hasBody Try.prog 47=true:=by kernel_rfl
theorem hbd48:hasBody Try.prog 48=true:=by kernel_rfl
theorem hbd49:hasBody Try.prog 49=true:=by kernel_rfl
theorem hbd50:hasBody Try.prog 50=true:=by kernel_rfl
theorem hbd53:hasBody Try.prog 53=true:=by kernel_rfl
theorem hbd54:hasBody Try.prog 54=true:=by kernel_rfl
theorem hbd55:hasBody Try.prog 55=true:=by kernel_rfl
theorem hbd56:hasBody Try.prog 56=true:=by kernel_rfl
theorem hbd57:hasBody Try.prog 57=true:=by kernel_rfl
theorem hbd58:hasBody Try.prog 58=true:=by kernel_rfl
theorem hbd59:hasBody Try.prog 59=true:=by kernel_rfl
theorem hbd60:hasBody Try.prog 60=true:=by kernel_rfl
theorem hbd61:hasBody Try.prog 61=true:=by kernel_rfl
theorem hbd62:hasBody Try.prog 62=true:=by kernel_rfl
theorem hbd63:hasBody Try.prog 63=true:=by kernel_rfl
theorem hbd64:hasBody Try.prog 64=true:=by kernel_rfl
theorem hbd65:hasBody Try.prog 65=true:=by kernel_rfl
theorem hbd66:hasBody Try.prog 66=true:=by kernel_rfl
theorem hbd67:hasBody Try.prog 67=true:=by kernel_rfl
theorem hbd68:hasBody Try.prog 68=true:=by kernel_rfl
theorem hbd70:hasBody Try.prog 70=true:=by kernel_rfl
theorem hbd71:hasBody Try.prog 71=true:=by kernel_rfl
theorem hbd72:hasBody Try.prog 72=true:=by kernel_rfl
theorem hbd73:hasBody Try.prog 73=true:=by kernel_rfl
theorem hbd74:hasBody Try.prog 74=true:=by kernel_rfl
theorem hbd75:hasBody Try.prog 75=true:=by kernel_rfl
theorem hbd76:hasBody Try.prog 76=true:=by kernel_rfl
theorem hbd77:hasBody Try.prog 77=true:=by kernel_rfl
theorem hbd78:hasBody Try.prog 78=true:=by kernel_rfl
theorem hbd79:hasBody Try.prog 79=true:=by kernel_rfl
theorem hbd80:hasBody Try.prog 80=true:=by kernel_rfl
theorem inf9:(Try.prog.info? 9).map (fun i=>(i.zero,i.size,i.bytes))=some (some (.string ⟨#[]⟩),1,16):=by kernel_rfl
theorem inf24:(Try.prog.info? 24).map (fun i=>(i.zero,i.size,i.bytes))=some (some (.agg #[VI 0,.string ⟨#[]⟩,VI 0,.slice none 0 0]),4,56):=by kernel_rfl
theorem inf41:(Try.prog.info? 41).map (fun i=>(i.zero,i.size,i.bytes))=some (some (.agg #[VI 0,.string ⟨#[]⟩,VI 0]),3,32):=by kernel_rfl
theorem mixed:Try.prog.follows .mixedOrders=true:=by kernel_rfl
theorem fsz3:(Try.prog.info? 3).map (·.size)=some 1:=by kernel_rfl
theorem fsz9:(Try.prog.info? 9).map (·.size)=some 1:=by kernel_rfl
theorem fsz22:(Try.prog.info? 22).map (·.size)=some 1:=by kernel_rfl
theorem fsz24:(Try.prog.info? 24).map (·.size)=some 4:=by kernel_rfl
theorem fsz32:(Try.prog.info? 32).map (·.size)=some 1:=by kernel_rfl
theorem fsz33:(Try.prog.info? 33).map (·.size)=some 1:=by kernel_rfl
theorem fsz41:(Try.prog.info? 41).map (·.size)=some 3:=by kernel_rfl
theorem fsz44:(Try.prog.info? 44).map (·.size)=some 1:=by kernel_rfl
theorem zr3:(Try.prog.info? 3).bind (·.zero)=some (VI 0):=by kernel_rfl
theorem zr24:(Try.prog.info? 24).bind (·.zero)=some (.agg #[VI 0,.string ⟨#[]⟩,VI 0,.slice none 0 0]):=by kernel_rfl
theorem zr32:(Try.prog.info? 32).bind (·.zero)=some (.slice none 0 0):=by kernel_rfl
theorem zr33:(Try.prog.info? 33).bind (·.zero)=some (VI 0):=by kernel_rfl
theorem zr41:(Try.prog.info? 41).bind (·.zero)=some (.agg #[VI 0,.string ⟨#[]⟩,VI 0]):=by kernel_rfl
theorem zr46:(Try.prog.info? 46).bind (·.zero)=some (.agg #[.slice none 0 0]):=by kernel_rfl
theorem zr52:(Try.prog.info? 52).bind (·.zero)=some (.agg #[.pointer none,.slice none 0 0]):=by kernel_rfl
theorem zr67:(Try.prog.info? 67).bind (·.zero)=some (.agg #[.slice none 0 0,VI 0,VI 0]):=by kernel_rfl
theorem zs9:(Try.prog.info? 9).map (fun i=>(i.zero,i.size))=some (some (.string ⟨#[]⟩),1):=by kernel_rfl
theorem zs24:(Try.prog.info? 24).map (fun i=>(i.zero,i.size))=some (some (.agg #[VI 0,.string ⟨#[]⟩,VI 0,.slice none 0 0]),4):=by kernel_rfl
theorem zs41:(Try.prog.info? 41).map (fun i=>(i.zero,i.size))=some (some (.agg #[VI 0,.string ⟨#[]⟩,VI 0]),3):=by kernel_rfl
end Go.Proofs.Ythlhmoocgjddpaa.Sy
set_option linter.unusedVariables false
namespace Go.Proofs.Ythlhmoocgjddpaa.SyO
open Go Go.RowKit Go.Proofs.YthlhmoocgjddpaaW.PrintWords Go.Proofs.YthlhmoocgjddpaaW.PrintLast Go.Proofs.YthlhmoocgjddpaaW.PrintMore
theorem weightsAll_mem {H : Type} {P : Program} {e : TypeId} : ∀ (l : List (DataW H)) (d : DataW H), d ∈ l → ∀ n ∈ d.weights P e, n ∈ DataW.weightsAll P e l
  | x :: r, d, hd, n, hn => by
    simp only [DataW.weightsAll, List.mem_append]
    rcases List.mem_cons.1 hd with rfl | hd
    · exact .inl hn
    · exact .inr (weightsAll_mem r d hd n hn)
theorem part_le {H : Type} {d : DataW H} {l : List (DataW H)} (h : d ∈ l) : Rows.uptoBulk d ≤ Rows.uptoBulkAll l := by
  induction l with
  | nil => cases h
  | cons x r ih =>
    simp only [Rows.uptoBulkAll]
    rcases List.mem_cons.1 h with e | e
    · subst e; omega
    · have := ih e; omega
/-- What a machine bears, and of bounded bulk. -/
def Sml {H : Type} (P : Program) (t : TypeId) (d : DataW H) : Prop := (∀ n ∈ d.weights P t, n ≤ reachBytes) ∧ Rows.uptoBulk d ≤ 1048576
/-- What reads as_ data of this type is an element of this kind. -/
def Opens (b : Nat) {α : Type} (P : Program) (t : TypeId) (d : Kd α) (W : α → Prop) : Prop :=
  P.cellsOf t = d.sz ∧ ∀ (H : Type) (enc : TypeId × Value → H) (w : World) (base : Nat) (held : Bool) (fuel : Nat) (cs : List Value) (x : DataW H × List MemPlace),
    DataW.trod enc P w base (fun _ => true) held fuel t cs = some x → SizeOf.sizeOf x.1 < b → Sml P t x.1 → ∃ y, d.K w y cs ∧ W y
variable {P : Program} {t e : TypeId} {b : Nat}
theorem agg_lt {H : Type} {ds : List (DataW H)} {d : DataW H} (h : d ∈ ds) : SizeOf.sizeOf d < SizeOf.sizeOf (DataW.agg ds) := by
  have := List.sizeOf_lt_of_mem h
  simp only [DataW.agg.sizeOf_spec]; omega
theorem slice_lt {H : Type} {ds sp : List (DataW H)} {d : DataW H} (h : d ∈ ds) : SizeOf.sizeOf d < SizeOf.sizeOf (DataW.slice ds sp) := by
  have := List.sizeOf_lt_of_mem h
  simp only [DataW.slice.sizeOf_spec]; omega
theorem Opens.int {k : IntKind} (ht : P.underlying t = some (.int k)) (hc : P.cellsOf t = 1) : Opens b P t (Kd.int k) (fun n => (Lit.int k n).wf = true) :=
  ⟨hc, fun H enc w base held fuel cs x h hb0 hz => by
    obtain ⟨n, rfl, _, hw⟩ := DataW.trod_int ht h
    exact ⟨n, rfl, hw⟩⟩
theorem Opens.bool (ht : P.underlying t = some .bool) (hc : P.cellsOf t = 1) : Opens b P t Kd.bool (fun _ => True) :=
  ⟨hc, fun H enc w base held fuel cs x h hb0 hz => by
    obtain ⟨n, rfl, _⟩ := DataW.trod_bool ht h
    exact ⟨n, rfl, trivial⟩⟩
theorem Opens.string (ht : P.underlying t = some .string) (hc : P.cellsOf t = 1) : Opens b P t Kd.string (fun s => s.size ≤ 1048576) :=
  ⟨hc, fun H enc w base held fuel cs x h hb0 hz => by
    obtain ⟨s, rfl, rfl, hw⟩ := DataW.trod_string ht h
    have h2 := hz.2
    simp only [Rows.uptoBulk] at h2
    exact ⟨s, rfl, by have : s.data.toList.length = s.size := rfl
                      omega⟩⟩
theorem Opens.slice {α : Type} {d : Kd α} {W : α → Prop} (ht : P.underlying t = some (.slice e)) (hc : P.cellsOf t = 1) (he : Opens b P e d W) :
    Opens (b + 1) P t (Kd.slice e d) (fun l => l.length ≤ maxLen ∧ l.length * P.bytesOf e ≤ reachBytes ∧ ∀ y ∈ l, W y) :=
  ⟨hc, fun H enc w base held fuel cs x h hb0 hz => by
    rcases Go.Deep.open_slice ht h with ⟨rfl, _⟩ | ⟨a, len, cap, m, n, D, Pl, rfl, hb, hl, hm, hme, rfl, hall⟩
    · refine ⟨[], ⟨none, 0, rfl, Nat.le_refl _, rfl, Nat.zero_le _, fun h => absurd h (by simp)⟩, by simp, by simp⟩
    · simp only [if_true] at hme
      subst hme
      have h1 : ∀ i : Fin len, ∃ y : α, ∃ cs', w.cells? base (a.add (i.1 * P.cellsOf e)) (P.cellsOf e) = some cs' ∧ d.K w y cs' ∧ W y := by
        intro i
        obtain ⟨cs', hcs, htr⟩ := hall i.1 (by have := i.2; omega)
        obtain ⟨y, hy, hW⟩ := he.2 H enc w base held n cs' _ htr (by have := slice_lt (sp := (List.range (m - len)).map fun j => D (len + j)) (List.mem_map.2 ⟨i.1, List.mem_range.2 i.2, rfl⟩ : D i.1 ∈ (List.range len).map D); simp only at hb0 ⊢; omega) ⟨fun q hq => hz.1 q (by
          simp only [DataW.weights, ht]
          refine List.mem_cons_of_mem _ (List.mem_append_left _ (weightsAll_mem _ (D i.1) ?_ q hq))
          exact List.mem_map.2 ⟨i.1, List.mem_range.2 i.2, rfl⟩), by
          have h2 := hz.2
          have h3 := part_le (List.mem_map.2 ⟨i.1, List.mem_range.2 i.2, rfl⟩ : D i.1 ∈ (List.range len).map D)
          simp only [Rows.uptoBulk] at h2
          show Rows.uptoBulk (D i.1) ≤ _
          omega⟩
        exact ⟨y, cs', hcs, hy, hW⟩
      obtain ⟨Y, hY⟩ := Classical.axiomOfChoice h1
      have hlen : (List.ofFn Y).length = len := by simp
      have hmx : maxLen = 9223372036854775807 := by decide
      refine ⟨List.ofFn Y, ⟨some a, _, by rw [hlen], by rw [hlen]; exact hl, rfl, by rw [hlen]; omega, fun _ => ⟨a, rfl, ?_⟩⟩, by rw [hlen]; omega, ?_, ?_⟩
      · intro j p hj
        obtain ⟨hjl, rfl⟩ := List.getElem?_eq_some_iff.1 hj
        rw [hlen] at hjl
        obtain ⟨cs', hcs, hK, _⟩ := hY ⟨j, hjl⟩
        obtain ⟨_, hln, hcell⟩ := World.cells?_some hcs
        refine ⟨cs', d.K_len hK, by rw [List.getElem_ofFn]; exact hK, ?_⟩
        intro i u hu
        have hi : i < cs'.length := (List.getElem?_eq_some_iff.1 hu).1
        rw [← he.1]
        have := hcell i (by omega)
        rw [hu, Addr.add_add] at this
        exact this
      · have h9 := hz.1 ((len + (m - len)) * P.bytesOf e) (by simp [DataW.weights, ht])
        rw [hlen]
        exact Nat.le_trans (Nat.mul_le_mul_right _ (by omega)) h9
      · intro y hy
        obtain ⟨i, rfl⟩ := List.mem_ofFn.1 hy
        obtain ⟨_, _, _, hW⟩ := hY i
        exact hW⟩
/-- The fields of a struct, from one on. -/
def OpensF (b : Nat) {α : Type} (P : Program) (fs : List Field) (off : Nat) (d : Kd α) (W : α → Prop) : Prop :=
  (∀ f ∈ fs, off ≤ f.offset) ∧ ∀ (H : Type) (enc : TypeId × Value → H) (w : World) (base : Nat) (held : Bool) (fuel : Nat) (cs : List Value), cs.length = d.sz →
    (∀ f ∈ fs, ∃ x, DataW.trod enc P w base (fun _ => true) held fuel f.type ((cs.drop (f.offset - off)).take (P.cellsOf f.type)) = some x ∧ SizeOf.sizeOf x.1 < b ∧ Sml P f.type x.1) → ∃ y, d.K w y cs ∧ W y
theorem OpensF.one {α : Type} {d : Kd α} {W : α → Prop} {f : Field} (h : Opens b P f.type d W) : OpensF b P [f] f.offset d W :=
  ⟨by simp, fun H enc w base held fuel cs hcs hx => by
    obtain ⟨x, hx, hb0, hz⟩ := hx f (List.mem_singleton_self _)
    rw [Nat.sub_self, List.drop_zero, h.1, List.take_of_length_le (by omega)] at hx
    exact h.2 H enc w base held fuel cs x hx hb0 hz⟩
theorem OpensF.cons {α β : Type} {d : Kd α} {W : α → Prop} {d' : Kd β} {W' : β → Prop} {f : Field} {fs : List Field} {off : Nat} (h : Opens b P f.type d W) (hoff : off = f.offset + d.sz) (h' : OpensF b P fs off d' W') :
    OpensF b P (f :: fs) f.offset (Kd.pair d d') (fun x => W x.1 ∧ W' x.2) :=
  ⟨fun g hg => by
    rcases List.mem_cons.1 hg with rfl | hg
    · exact Nat.le_refl _
    · have := h'.1 g hg; omega,
   fun H enc w base held fuel cs hcs hx => by
    have hcs' : cs.length = d.sz + d'.sz := hcs
    obtain ⟨x, hx0, hb0, hz0⟩ := hx f List.mem_cons_self
    rw [Nat.sub_self, List.drop_zero, h.1] at hx0
    obtain ⟨y, hy, hW⟩ := h.2 H enc w base held fuel _ x hx0 hb0 hz0
    obtain ⟨y', hy', hW'⟩ := h'.2 H enc w base held fuel (cs.drop d.sz) (by rw [List.length_drop]; omega) (fun g hg => by
      obtain ⟨x, hx1, hb1, hz1⟩ := hx g (List.mem_cons_of_mem _ hg)
      have := h'.1 g hg
      refine ⟨x, ?_, hb1, hz1⟩
      rw [List.drop_drop, show d.sz + (g.offset - off) = g.offset - f.offset from by omega]
      exact hx1)
    exact ⟨(y, y'), ⟨cs.take d.sz, cs.drop d.sz, (List.take_append_drop _ _).symm, hy, hy'⟩, hW, hW'⟩⟩
theorem Opens.struct {α β : Type} {d : Kd α} {W : α → Prop} {fs : Array Field} (ht : P.underlying t = some (.struct fs)) (hc : P.cellsOf t = d.sz) (h : OpensF b P fs.toList 0 d W) (g : β → α) (g' : α → β) (hg : ∀ a, g (g' a) = a) :
    Opens (b + 1) P t (Kd.iso d g) (fun b => W (g b)) :=
  ⟨hc, fun H enc w base held fuel cs x hx hb0 hz => by
    obtain ⟨xs, n, _, rfl, hln, hxl, hall⟩ := DataW.trod_struct ht hx
    obtain ⟨y, hy, hW⟩ := h.2 H enc w base held n cs (by rw [hln, hc]) (fun f hf => by
      obtain ⟨i, hi⟩ := List.getElem?_of_mem hf
      have hi' : fs[i]? = some f := by simpa using hi
      have := hall i f hi'
      have hil : i < xs.length := by rw [hxl]; exact (Array.getElem?_eq_some_iff.1 hi').1
      rw [List.getElem?_eq_getElem hil] at this
      refine ⟨_, by rw [Nat.sub_zero]; exact this, by have h7 := agg_lt (List.mem_map.2 ⟨xs[i], List.getElem_mem hil, rfl⟩ : xs[i].1 ∈ xs.map (·.1)); simp only at hb0 ⊢; omega, fun q hq => hz.1 q ?_, ?_⟩
      rotate_left
      · have h2 := hz.2
        have h3 := part_le (List.mem_map.2 ⟨xs[i], List.getElem_mem hil, rfl⟩ : xs[i].1 ∈ xs.map (·.1))
        simp only [Rows.uptoBulk] at h2
        show Rows.uptoBulk xs[i].1 ≤ _
        omega
      simp only [DataW.weights, ht]
      exact DataW.weights_mem_each (j := i) (t := f.type) (d := xs[i].1) (by simp [hi']) (by simp [List.getElem?_eq_getElem hil]) q hq)
    exact ⟨g' y, by show d.K w (g (g' y)) cs; rw [hg]; exact hy, by show W (g (g' y)); rw [hg]; exact hW⟩⟩
theorem Opens.mono {α : Type} {d : Kd α} {W W' : α → Prop} (h : Opens b P t d W) (hw : ∀ y, W y → W' y) : Opens b P t d W' :=
  ⟨h.1, fun H enc w base held fuel cs x hx hb0 hz => by
    obtain ⟨y, hy, hW⟩ := h.2 H enc w base held fuel cs x hx hb0 hz
    exact ⟨y, hy, hw y hW⟩⟩
theorem Opens.le {α : Type} {d : Kd α} {W : α → Prop} {b' : Nat} (h : Opens b' P t d W) (hb : b ≤ b') : Opens b P t d W :=
  ⟨h.1, fun H enc w base held fuel cs x hx hb0 hz => h.2 H enc w base held fuel cs x hx (Nat.lt_of_lt_of_le hb0 hb) hz⟩
/-- A kind of its own kind: level by level. -/
def upW {α : Type} (F : (α → Prop) → α → Prop) : Nat → α → Prop
  | 0, _ => False
  | n + 1, x => F (upW F n) x
theorem Opens.fix {α : Type} {F : Kd α → Kd α} {WF : (α → Prop) → α → Prop} {sz : Nat} {own : List TypeId} {hs : ∀ n, (Kd.upto F sz own n).sz = sz} {hE : ∀ n, (Kd.upto F sz own n).E ⊆ own} (hc : P.cellsOf t = sz)
    (step : ∀ (b : Nat) (d : Kd α) (W : α → Prop), d.sz = sz → Opens b P t d W → Opens (b + 1) P t (F d) (WF W)) (b : Nat) : Opens b P t (Kd.fix F sz own hs hE) (fun x => ∃ n, upW WF n x) := by
  have up : ∀ n, Opens n P t (Kd.upto F sz own n) (upW WF n) := by
    intro n
    induction n with
    | zero => exact ⟨by rw [hs]; exact hc, fun H enc w base held fuel cs x hx hb0 hz => absurd hb0 (Nat.not_lt_zero _)⟩
    | succ n ih => exact step n _ _ (hs n) ih
  refine ⟨hc, fun H enc w base held fuel cs x hx hb0 hz => ?_⟩
  obtain ⟨y, hy, hW⟩ := (up b).2 H enc w base held fuel cs x hx hb0 hz
  exact ⟨y, ⟨b, hy⟩, b, hW⟩
end Go.Proofs.Ythlhmoocgjddpaa.SyO
set_option linter.unusedVariables false
set_option maxRecDepth 100000
namespace Go.Proofs.Ythlhmoocgjddpaa.Sy
open Go Go.RowKit Go.Proofs.YthlhmoocgjddpaaW.PrintWords Go.Proofs.Ythlhmoocgjddpaa.SyO 
theorem bytes22 : Try.prog.bytesOf 24 = 56 := by kernel_rfl
def WF24 (W : S24 → Prop) (x : S24) : Prop := (Lit.int .i64 x.f0).wf = true ∧ x.f1.size ≤ 1048576 ∧ (Lit.int .i64 x.f2).wf = true ∧ (x.f3.length * 56 ≤ 140737488351232 ∧ ∀ y ∈ x.f3, W y)
def ok24 (x : S24) : Prop := ∃ n, upW WF24 n x
theorem cells24 : Try.prog.cellsOf 24 = 4 := by kernel_rfl
theorem opens24 (b : Nat) : Opens b Try.prog 24 k24 ok24 := Opens.fix (WF := WF24) cells24 (fun b d W hsz h => Opens.struct Try.underlying24 cells24 (OpensF.cons (Opens.int Try.underlying3 (by kernel_rfl)) rfl (OpensF.cons (Opens.string Try.underlying9 (by kernel_rfl)) rfl (OpensF.cons (Opens.int Try.underlying3 (by kernel_rfl)) rfl (OpensF.one (((Opens.slice Try.underlying22 (by kernel_rfl) h).le (Nat.le_succ _)).mono (W' := fun (l : (List S24)) => (l.length * 56 ≤ 140737488351232 ∧ ∀ y ∈ l, W y)) (fun l h => ⟨by have h2 := h.2.1; rw [bytes22] at h2; exact h2, h.2.2⟩)))))) (fun x : S24 => (x.f0, x.f1, x.f2, x.f3)) (fun y => ⟨y.1, y.2.1, y.2.2.1, y.2.2.2⟩) (fun _ => rfl)) b
theorem ho24 : HO k24 := HO.fix (fun d h => HO.iso (HO.pair HO.int (HO.pair HO.string (HO.pair HO.int (HO.slice h)))))
end Go.Proofs.Ythlhmoocgjddpaa.Sy
set_option linter.unusedVariables false
set_option linter.unusedSimpArgs false
set_option maxRecDepth 100000
set_option maxHeartbeats 4000000
namespace Go.Proofs.Ythlhmoocgjddpaa.Sy
open Go Go.RowKit Go.Proofs.YthlhmoocgjddpaaW.PrintWords 
def parse_strength.f (a0:ByteArray):Option Int:=jn (γ:=Int) (fun (x112:Bool)=>(if x112=true then some 1 else jn (γ:=Int) (fun (x154:Bool)=>(if x154=true then some 2 else jn (γ:=Int) (fun (x186:Bool)=>(if x186=true then some 3 else some 0)) (fun (j187:(Bool → Option Int))=>(if (a0.data.toList == (⟨#[42]⟩:ByteArray).data.toList)=true then j187 (a0.data.toList == (⟨#[42]⟩:ByteArray).data.toList) else (if (a0.data.toList == (⟨#[47]⟩:ByteArray).data.toList)=true then j187 (a0.data.toList == (⟨#[47]⟩:ByteArray).data.toList) else (if (a0.data.toList == (⟨#[37]⟩:ByteArray).data.toList)=true then j187 (a0.data.toList == (⟨#[37]⟩:ByteArray).data.toList) else (if (a0.data.toList == (⟨#[38]⟩:ByteArray).data.toList)=true then j187 (a0.data.toList == (⟨#[38]⟩:ByteArray).data.toList) else (if (a0.data.toList == (⟨#[60,60]⟩:ByteArray).data.toList)=true then j187 (a0.data.toList == (⟨#[60,60]⟩:ByteArray).data.toList) else j187 (a0.data.toList == (⟨#[62,62]⟩:ByteArray).data.toList))))))))) (fun (j155:(Bool → Option Int))=>(if (a0.data.toList == (⟨#[43]⟩:ByteArray).data.toList)=true then j155 (a0.data.toList == (⟨#[43]⟩:ByteArray).data.toList) else (if (a0.data.toList == (⟨#[45]⟩:ByteArray).data.toList)=true then j155 (a0.data.toList == (⟨#[45]⟩:ByteArray).data.toList) else (if (a0.data.toList == (⟨#[124]⟩:ByteArray).data.toList)=true then j155 (a0.data.toList == (⟨#[124]⟩:ByteArray).data.toList) else j155 (a0.data.toList == (⟨#[94]⟩:ByteArray).data.toList))))))) (fun (j113:(Bool → Option Int))=>(if (a0.data.toList == (⟨#[61,61]⟩:ByteArray).data.toList)=true then j113 (a0.data.toList == (⟨#[61,61]⟩:ByteArray).data.toList) else (if (a0.data.toList == (⟨#[33,61]⟩:ByteArray).data.toList)=true then j113 (a0.data.toList == (⟨#[33,61]⟩:ByteArray).data.toList) else (if (a0.data.toList == (⟨#[60]⟩:ByteArray).data.toList)=true then j113 (a0.data.toList == (⟨#[60]⟩:ByteArray).data.toList) else j113 (a0.data.toList == (⟨#[60,61]⟩:ByteArray).data.toList)))))
def parse_strength.post (G:Gd)  (r:Int) (v:Value) (G':Gd) (Lr:List Ch):Prop:=G=G'∧v=VI r∧Lr=[]
theorem parse_strength.calls {G:Gd} {r:Int} {a0:ByteArray} (h:parse_strength.f a0=some r):Fn Try.prog 76 G [] [.string a0] (parse_strength.post G  r):=by
 refine Fn.intro (e:=[(0,.string a0)]) 21 Try.func76 rfl Try.ntmps76 rfl rfl (Nat.le_of_ble_eq_true rfl) (fun L=>?_)
 unfold parse_strength.f at h
 refine TC.seq ?_
 refine TC.region ?_
 refine TV rfl rfl rfl (Val.assign rfl) ?_
 refine TL.nil ?_
 refine TQ.then_ ?_
 refine TC.seq ?_
 refine TC.seq ?_
 refine TC.region ?_
 refine TV rfl rfl rfl (Val.move rfl) ?_
 refine TL.nil ?_
 refine TQ.then_ ?_
 refine TC.block ?_
 refine TC.seq ?_
 refine TC.seq ?_
 refine TC.region ?_
 refine TV rfl rfl rfl (Val.eqT rfl rfl) ?_
 refine TV rfl rfl rfl (Val.assign rfl) ?_
 refine TL.nil ?_
 refine TQ.then_ ?_
 obtain ⟨j113,hj113,h⟩:=jn_no h
 refine TC.tail (fun a W=>∃ (x112:Bool),j113 x112=some r∧Fr 21 a [(3,.string a0),(4,.bool x112)]∧Own G (L) W) ?_ ?_
 ·
  rintro a W ⟨x112,h,hF,hO⟩
  rw [hj113] at h
  refine TQ.use ?_ hF hO
  clear hF hO
  refine TQ.then_ ?_
  refine TC.cond_b rfl h (fun hc150 h=>?_) (fun hc150 h=>?_)
  ·
   refine TC.seq ?_
   refine TC.region ?_
   refine TV rfl rfl rfl (Val.assign rfl) ?_
   refine TL.nil ?_
   refine TQ.then_ ?_
   refine TC.ret ?_
   refine TQ.inBR ?_
   refine TQ.thenR ?_
   obtain rfl:=Option.some.inj h
   exact TQ.fin (.inl rfl) rfl Try.results76 (.tmp rfl .nil) rfl (FRel.mk (Ls:=[]) [] 0 (Gd.le.refl _) rfl rfl rfl ⟨rfl,rfl,rfl⟩)
  ·
   refine TC.seq ?_
   refine TC.seq ?_
   refine TC.region ?_
   refine TV rfl rfl rfl (Val.eqT rfl rfl) ?_
   refine TV rfl rfl rfl (Val.assign rfl) ?_
   refine TL.nil ?_
   refine TQ.then_ ?_
   obtain ⟨j155,hj155,h⟩:=jn_no h
   refine TC.tail (fun a W=>∃ (x154:Bool),j155 x154=some r∧Fr 21 a [(3,.string a0),(9,.bool x154)]∧Own G (L) W) ?_ ?_
   ·
    rintro a W ⟨x154,h,hF,hO⟩
    rw [hj155] at h
    refine TQ.use ?_ hF hO
    clear hF hO
    refine TQ.then_ ?_
    refine TC.cond_b rfl h (fun hc180 h=>?_) (fun hc180 h=>?_)
    ·
     refine TC.seq ?_
     refine TC.region ?_
     refine TV rfl rfl rfl (Val.assign rfl) ?_
     refine TL.nil ?_
     refine TQ.then_ ?_
     refine TC.ret ?_
     refine TQ.inBR ?_
     refine TQ.thenR ?_
     obtain rfl:=Option.some.inj h
     exact TQ.fin (.inl rfl) rfl Try.results76 (.tmp rfl .nil) rfl (FRel.mk (Ls:=[]) [] 0 (Gd.le.refl _) rfl rfl rfl ⟨rfl,rfl,rfl⟩)
    ·
     refine TC.seq ?_
     refine TC.seq ?_
     refine TC.region ?_
     refine TV rfl rfl rfl (Val.eqT rfl rfl) ?_
     refine TV rfl rfl rfl (Val.assign rfl) ?_
     refine TL.nil ?_
     refine TQ.then_ ?_
     obtain ⟨j187,hj187,h⟩:=jn_no h
     refine TC.tail (fun a W=>∃ (x186:Bool),j187 x186=some r∧Fr 21 a [(14,.bool x186)]∧Own G (L) W) ?_ ?_
     ·
      rintro a W ⟨x186,h,hF,hO⟩
      rw [hj187] at h
      refine TQ.use ?_ hF hO
      clear hF hO
      refine TQ.then_ ?_
      refine TC.cond_b rfl h (fun hc189 h=>?_) (fun hc189 h=>?_)
      ·
       refine TC.seq ?_
       refine TC.region ?_
       refine TV rfl rfl rfl (Val.assign rfl) ?_
       refine TL.nil ?_
       refine TQ.then_ ?_
       refine TC.ret ?_
       refine TQ.inBR ?_
       refine TQ.thenR ?_
       obtain rfl:=Option.some.inj h
       exact TQ.fin (.inl rfl) rfl Try.results76 (.tmp rfl .nil) rfl (FRel.mk (Ls:=[]) [] 0 (Gd.le.refl _) rfl rfl rfl ⟨rfl,rfl,rfl⟩)
      ·
       refine TC.skip ?_
       refine TQ.inB ?_
       refine TQ.then_ ?_
       refine TC.seq ?_
       refine TC.region ?_
       refine TV rfl rfl rfl (Val.assign rfl) ?_
       refine TL.nil ?_
       refine TQ.then_ ?_
       refine TC.ret ?_
       obtain rfl:=Option.some.inj h
       exact TQ.fin (.inl rfl) rfl Try.results76 (.tmp rfl .nil) rfl (FRel.mk (Ls:=[]) [] 0 (Gd.le.refl _) rfl rfl rfl ⟨rfl,rfl,rfl⟩)
     ·
      refine TC.cond_b rfl h (fun hc190 h=>?_) (fun hc190 h=>?_)
      ·
       refine TC.skip ?_
       exact fun a W hF hO=>⟨(a0.data.toList == (⟨#[42]⟩:ByteArray).data.toList),h,hF.sub ⟨rfl,trivial⟩,hO.selT (Ls:=[]) [] 0 rfl rfl rfl⟩
      ·
       refine TC.seq ?_
       refine TC.region ?_
       refine TV rfl rfl rfl (Val.eqT rfl rfl) ?_
       refine TV rfl rfl rfl (Val.assign rfl) ?_
       refine TL.nil ?_
       refine TQ.then_ ?_
       refine TC.cond_b rfl h (fun hc195 h=>?_) (fun hc195 h=>?_)
       ·
        refine TC.skip ?_
        exact fun a W hF hO=>⟨(a0.data.toList == (⟨#[47]⟩:ByteArray).data.toList),h,hF.sub ⟨rfl,trivial⟩,hO.selT (Ls:=[]) [] 0 rfl rfl rfl⟩
       ·
        refine TC.seq ?_
        refine TC.region ?_
        refine TV rfl rfl rfl (Val.eqT rfl rfl) ?_
        refine TV rfl rfl rfl (Val.assign rfl) ?_
        refine TL.nil ?_
        refine TQ.then_ ?_
        refine TC.cond_b rfl h (fun hc199 h=>?_) (fun hc199 h=>?_)
        ·
         refine TC.skip ?_
         exact fun a W hF hO=>⟨(a0.data.toList == (⟨#[37]⟩:ByteArray).data.toList),h,hF.sub ⟨rfl,trivial⟩,hO.selT (Ls:=[]) [] 0 rfl rfl rfl⟩
        ·
         refine TC.seq ?_
         refine TC.region ?_
         refine TV rfl rfl rfl (Val.eqT rfl rfl) ?_
         refine TV rfl rfl rfl (Val.assign rfl) ?_
         refine TL.nil ?_
         refine TQ.then_ ?_
         refine TC.cond_b rfl h (fun hc202 h=>?_) (fun hc202 h=>?_)
         ·
          refine TC.skip ?_
          exact fun a W hF hO=>⟨(a0.data.toList == (⟨#[38]⟩:ByteArray).data.toList),h,hF.sub ⟨rfl,trivial⟩,hO.selT (Ls:=[]) [] 0 rfl rfl rfl⟩
         ·
          refine TC.seq ?_
          refine TC.region ?_
          refine TV rfl rfl rfl (Val.eqT rfl rfl) ?_
          refine TV rfl rfl rfl (Val.assign rfl) ?_
          refine TL.nil ?_
          refine TQ.then_ ?_
          refine TC.cond_b rfl h (fun hc204 h=>?_) (fun hc204 h=>?_)
          ·
           refine TC.skip ?_
           exact fun a W hF hO=>⟨(a0.data.toList == (⟨#[60,60]⟩:ByteArray).data.toList),h,hF.sub ⟨rfl,trivial⟩,hO.selT (Ls:=[]) [] 0 rfl rfl rfl⟩
          ·
           refine TC.region ?_
           refine TV rfl rfl rfl (Val.eqT rfl rfl) ?_
           refine TV rfl rfl rfl (Val.assign rfl) ?_
           refine TL.nil ?_
           exact fun a W hF hO=>⟨(a0.data.toList == (⟨#[62,62]⟩:ByteArray).data.toList),h,hF.sub ⟨rfl,trivial⟩,hO.selT (Ls:=[]) [] 0 rfl rfl rfl⟩
   ·
    refine TC.cond_b rfl h (fun hc205 h=>?_) (fun hc205 h=>?_)
    ·
     refine TC.skip ?_
     exact fun a W hF hO=>⟨(a0.data.toList == (⟨#[43]⟩:ByteArray).data.toList),h,hF.sub ⟨rfl,rfl,trivial⟩,hO.selT (Ls:=[]) [] 0 rfl rfl rfl⟩
    ·
     refine TC.seq ?_
     refine TC.region ?_
     refine TV rfl rfl rfl (Val.eqT rfl rfl) ?_
     refine TV rfl rfl rfl (Val.assign rfl) ?_
     refine TL.nil ?_
     refine TQ.then_ ?_
     refine TC.cond_b rfl h (fun hc208 h=>?_) (fun hc208 h=>?_)
     ·
      refine TC.skip ?_
      exact fun a W hF hO=>⟨(a0.data.toList == (⟨#[45]⟩:ByteArray).data.toList),h,hF.sub ⟨rfl,rfl,trivial⟩,hO.selT (Ls:=[]) [] 0 rfl rfl rfl⟩
     ·
      refine TC.seq ?_
      refine TC.region ?_
      refine TV rfl rfl rfl (Val.eqT rfl rfl) ?_
      refine TV rfl rfl rfl (Val.assign rfl) ?_
      refine TL.nil ?_
      refine TQ.then_ ?_
      refine TC.cond_b rfl h (fun hc210 h=>?_) (fun hc210 h=>?_)
      ·
       refine TC.skip ?_
       exact fun a W hF hO=>⟨(a0.data.toList == (⟨#[124]⟩:ByteArray).data.toList),h,hF.sub ⟨rfl,rfl,trivial⟩,hO.selT (Ls:=[]) [] 0 rfl rfl rfl⟩
      ·
       refine TC.region ?_
       refine TV rfl rfl rfl (Val.eqT rfl rfl) ?_
       refine TV rfl rfl rfl (Val.assign rfl) ?_
       refine TL.nil ?_
       exact fun a W hF hO=>⟨(a0.data.toList == (⟨#[94]⟩:ByteArray).data.toList),h,hF.sub ⟨rfl,rfl,trivial⟩,hO.selT (Ls:=[]) [] 0 rfl rfl rfl⟩
 ·
  refine TC.cond_b rfl h (fun hc211 h=>?_) (fun hc211 h=>?_)
  ·
   refine TC.skip ?_
   exact fun a W hF hO=>⟨(a0.data.toList == (⟨#[61,61]⟩:ByteArray).data.toList),h,hF.sub ⟨rfl,rfl,trivial⟩,hO.selT (Ls:=[]) [] 0 rfl rfl rfl⟩
  ·
   refine TC.seq ?_
   refine TC.region ?_
   refine TV rfl rfl rfl (Val.eqT rfl rfl) ?_
   refine TV rfl rfl rfl (Val.assign rfl) ?_
   refine TL.nil ?_
   refine TQ.then_ ?_
   refine TC.cond_b rfl h (fun hc214 h=>?_) (fun hc214 h=>?_)
   ·
    refine TC.skip ?_
    exact fun a W hF hO=>⟨(a0.data.toList == (⟨#[33,61]⟩:ByteArray).data.toList),h,hF.sub ⟨rfl,rfl,trivial⟩,hO.selT (Ls:=[]) [] 0 rfl rfl rfl⟩
   ·
    refine TC.seq ?_
    refine TC.region ?_
    refine TV rfl rfl rfl (Val.eqT rfl rfl) ?_
    refine TV rfl rfl rfl (Val.assign rfl) ?_
    refine TL.nil ?_
    refine TQ.then_ ?_
    refine TC.cond_b rfl h (fun hc216 h=>?_) (fun hc216 h=>?_)
    ·
     refine TC.skip ?_
     exact fun a W hF hO=>⟨(a0.data.toList == (⟨#[60]⟩:ByteArray).data.toList),h,hF.sub ⟨rfl,rfl,trivial⟩,hO.selT (Ls:=[]) [] 0 rfl rfl rfl⟩
    ·
     refine TC.region ?_
     refine TV rfl rfl rfl (Val.eqT rfl rfl) ?_
     refine TV rfl rfl rfl (Val.assign rfl) ?_
     refine TL.nil ?_
     exact fun a W hF hO=>⟨(a0.data.toList == (⟨#[60,61]⟩:ByteArray).data.toList),h,hF.sub ⟨rfl,rfl,trivial⟩,hO.selT (Ls:=[]) [] 0 rfl rfl rfl⟩
def parse_prefix.f (a0:ByteArray):Option Int:=(if (a0.data.toList == (⟨#[45]⟩:ByteArray).data.toList)=true then some 20 else (if (a0.data.toList == (⟨#[42]⟩:ByteArray).data.toList)=true then some 21 else (if (a0.data.toList == (⟨#[38]⟩:ByteArray).data.toList)=true then some 22 else some 0)))
def parse_prefix.post (G:Gd)  (r:Int) (v:Value) (G':Gd) (Lr:List Ch):Prop:=G=G'∧v=VI r∧Lr=[]
theorem parse_prefix.calls {G:Gd} {r:Int} {a0:ByteArray} (h:parse_prefix.f a0=some r):Fn Try.prog 77 G [] [.string a0] (parse_prefix.post G  r):=by
 refine Fn.intro (e:=[(0,.string a0)]) 10 Try.func77 rfl Try.ntmps77 rfl rfl (Nat.le_of_ble_eq_true rfl) (fun L=>?_)
 unfold parse_prefix.f at h
 refine TC.seq ?_
 refine TC.region ?_
 refine TV rfl rfl rfl (Val.assign rfl) ?_
 refine TL.nil ?_
 refine TQ.then_ ?_
 refine TC.seq ?_
 refine TC.seq ?_
 refine TC.region ?_
 refine TV rfl rfl rfl (Val.move rfl) ?_
 refine TL.nil ?_
 refine TQ.then_ ?_
 refine TC.block ?_
 refine TC.seq ?_
 refine TC.region ?_
 refine TV rfl rfl rfl (Val.eqT rfl rfl) ?_
 refine TV rfl rfl rfl (Val.assign rfl) ?_
 refine TL.nil ?_
 refine TQ.then_ ?_
 refine TC.cond_b rfl h (fun hc13 h=>?_) (fun hc13 h=>?_)
 ·
  refine TC.seq ?_
  refine TC.region ?_
  refine TV rfl rfl rfl (Val.assign rfl) ?_
  refine TL.nil ?_
  refine TQ.then_ ?_
  refine TC.ret ?_
  refine TQ.inBR ?_
  refine TQ.thenR ?_
  obtain rfl:=Option.some.inj h
  exact TQ.fin (.inl rfl) rfl Try.results77 (.tmp rfl .nil) rfl (FRel.mk (Ls:=[]) [] 0 (Gd.le.refl _) rfl rfl rfl ⟨rfl,rfl,rfl⟩)
 ·
  refine TC.seq ?_
  refine TC.region ?_
  refine TV rfl rfl rfl (Val.eqT rfl rfl) ?_
  refine TV rfl rfl rfl (Val.assign rfl) ?_
  refine TL.nil ?_
  refine TQ.then_ ?_
  refine TC.cond_b rfl h (fun hc16 h=>?_) (fun hc16 h=>?_)
  ·
   refine TC.seq ?_
   refine TC.region ?_
   refine TV rfl rfl rfl (Val.assign rfl) ?_
   refine TL.nil ?_
   refine TQ.then_ ?_
   refine TC.ret ?_
   refine TQ.inBR ?_
   refine TQ.thenR ?_
   obtain rfl:=Option.some.inj h
   exact TQ.fin (.inl rfl) rfl Try.results77 (.tmp rfl .nil) rfl (FRel.mk (Ls:=[]) [] 0 (Gd.le.refl _) rfl rfl rfl ⟨rfl,rfl,rfl⟩)
  ·
   refine TC.seq ?_
   refine TC.region ?_
   refine TV rfl rfl rfl (Val.eqT rfl rfl) ?_
   refine TV rfl rfl rfl (Val.assign rfl) ?_
   refine TL.nil ?_
   refine TQ.then_ ?_
   refine TC.cond_b rfl h (fun hc18 h=>?_) (fun hc18 h=>?_)
   ·
    refine TC.seq ?_
    refine TC.region ?_
    refine TV rfl rfl rfl (Val.assign rfl) ?_
    refine TL.nil ?_
    refine TQ.then_ ?_
    refine TC.ret ?_
    refine TQ.inBR ?_
    refine TQ.thenR ?_
    obtain rfl:=Option.some.inj h
    exact TQ.fin (.inl rfl) rfl Try.results77 (.tmp rfl .nil) rfl (FRel.mk (Ls:=[]) [] 0 (Gd.le.refl _) rfl rfl rfl ⟨rfl,rfl,rfl⟩)
   ·
    refine TC.skip ?_
    refine TQ.inB ?_
    refine TQ.then_ ?_
    refine TC.seq ?_
    refine TC.region ?_
    refine TV rfl rfl rfl (Val.assign rfl) ?_
    refine TL.nil ?_
    refine TQ.then_ ?_
    refine TC.ret ?_
    obtain rfl:=Option.some.inj h
    exact TQ.fin (.inl rfl) rfl Try.results77 (.tmp rfl .nil) rfl (FRel.mk (Ls:=[]) [] 0 (Gd.le.refl _) rfl rfl rfl ⟨rfl,rfl,rfl⟩)
def parse_parser_wrong.f (a0_0:(List S41)) (a0_1:Int) (a0_2:Int) (a1:Int):Option Int:=(if a0_2=0 then some a1 else some a0_2)
def parse_parser_wrong.post (G:Gd) (b1:Nat) (A2:Option Addr) (c3:Nat) (a0_0:(List S41)) (a0_1:Int) (a0_2:Int) (a1:Int) (r:Int) (v:Value) (G':Gd) (Lr:List Ch):Prop:=G=G'∧v=.tuple #[]∧Lr=[Blk b1 [.slice A2 a0_0.length c3,VI a0_1,VI r] 67]
theorem parse_parser_wrong.calls {G:Gd} {r:Int} {a0_0:(List S41)} {a0_1:Int} {a0_2:Int} {a1:Int} {b1:Nat} {A2:Option Addr} {c3:Nat} (hr4:Rd G k41 A2 a0_0) (hl5:a0_0.length ≤ c3) (h:parse_parser_wrong.f a0_0 a0_1 a0_2 a1=some r):Fn Try.prog 63 G [Blk b1 [.slice A2 a0_0.length c3,VI a0_1,VI a0_2] 67] [VP b1 0,VI a1] (parse_parser_wrong.post G b1 A2 c3 a0_0 a0_1 a0_2 a1 r):=by
 refine Fn.intro (e:=[(0,VP b1 0),(1,VI a1)]) 13 Try.func63 rfl Try.ntmps63 rfl rfl (Nat.le_of_ble_eq_true rfl) (fun L=>?_)
 unfold parse_parser_wrong.f at h
 refine TC.seq ?_
 refine TC.region ?_
 refine TV rfl rfl rfl (Val.move rfl) ?_
 refine TV rfl rfl rfl (Val.nilCheck rfl) ?_
 refine TV rfl rfl rfl (Val.fieldAddrB Try.underlying67 rfl fsz33 rfl rfl rfl) ?_
 refine TV rfl rfl rfl (Val.loadB 0 agg33 rfl rfl rfl) ?_
 refine TV rfl rfl rfl (Val.cmp rfl rfl run_eql) ?_
 refine TL.nil ?_
 refine TQ.then_ ?_
 refine TC.cond_p rfl h (fun hc7 h=>?_) (fun hc7 h=>?_)
 ·
  refine TC.region ?_
  refine TV rfl rfl rfl (Val.move rfl) ?_
  refine TV rfl rfl rfl (Val.move rfl) ?_
  refine TV rfl rfl rfl (Val.nilCheck rfl) ?_
  refine TV rfl rfl rfl (Val.fieldAddrB Try.underlying67 rfl fsz33 rfl rfl rfl) ?_
  refine TL.cons (TL.store 0 (ds:=[VI a1]) (cs':=[.slice A2 a0_0.length c3,VI a0_1,VI a1]) (L':=(Blk b1 [.slice A2 a0_0.length c3,VI a0_1,VI a1] 67::L)) rfl fsz33 rfl rfl rfl rfl rfl (Nat.le_of_ble_eq_true rfl) rfl rfl ?_)
  refine TL.nil ?_
  obtain rfl:=Option.some.inj h
  exact TQ.fin (.inr rfl) rfl Try.results63 .nil rfl (FRel.mk (Ls:=[Blk b1 [.slice A2 a0_0.length c3,VI a0_1,VI a1] 67]) [0] 1 (Gd.le.refl _) rfl rfl rfl ⟨rfl,rfl,rfl⟩)
 ·
  refine TC.skip ?_
  obtain rfl:=Option.some.inj h
  exact TQ.fin (.inr rfl) rfl Try.results63 .nil rfl (FRel.mk (Ls:=[Blk b1 [.slice A2 a0_0.length c3,VI a0_1,VI a0_2] 67]) [0] 1 (Gd.le.refl _) rfl rfl rfl ⟨rfl,rfl,rfl⟩)
def parse_parser_may.f (a0_0:(List S41)) (a0_1:Int) (a0_2:Int) (a1:Int):Option (Bool × Int):=jn (γ:=(Bool × Int)) (fun (x9:Int)=>some (decide (x9=0),x9)) (fun (j10:(Int → Option (Bool × Int)))=>(if 100 < a1 then (parse_parser_wrong.f a0_0 a0_1 a0_2 5).bind fun (y12:Int)=>j10 y12 else j10 a0_2))
def parse_parser_may.post (G:Gd) (b1:Nat) (A2:Option Addr) (c3:Nat) (a0_0:(List S41)) (a0_1:Int) (a0_2:Int) (a1:Int) (r:(Bool × Int)) (v:Value) (G':Gd) (Lr:List Ch):Prop:=G=G'∧v=.bool r.1∧Lr=[Blk b1 [.slice A2 a0_0.length c3,VI a0_1,VI r.2] 67]
theorem parse_parser_may.calls {G:Gd} {r:(Bool × Int)} {a0_0:(List S41)} {a0_1:Int} {a0_2:Int} {a1:Int} {b1:Nat} {A2:Option Addr} {c3:Nat} (hr4:Rd G k41 A2 a0_0) (hl5:a0_0.length ≤ c3) (h:parse_parser_may.f a0_0 a0_1 a0_2 a1=some r):Fn Try.prog 66 G [Blk b1 [.slice A2 a0_0.length c3,VI a0_1,VI a0_2] 67] [VP b1 0,VI a1] (parse_parser_may.post G b1 A2 c3 a0_0 a0_1 a0_2 a1 r):=by
 refine Fn.intro (e:=[(0,VP b1 0),(1,VI a1)]) 14 Try.func66 rfl Try.ntmps66 rfl rfl (Nat.le_of_ble_eq_true rfl) (fun L=>?_)
 unfold parse_parser_may.f at h
 refine TC.seq ?_
 refine TC.region ?_
 refine TV rfl rfl rfl (Val.assign rfl) ?_
 refine TL.nil ?_
 refine TQ.then_ ?_
 refine TC.seq ?_
 refine TC.seq ?_
 refine TC.region ?_
 refine TV rfl rfl rfl (Val.move rfl) ?_
 refine TV rfl rfl rfl (Val.cmp rfl rfl run_gtr) ?_
 refine TL.nil ?_
 refine TQ.then_ ?_
 obtain ⟨j10,hj10,h⟩:=jn_no h
 refine TC.tail (fun a W=>∃ (x9:Int),j10 x9=some r∧Fr 14 a [(0,VP b1 0)]∧Own G (Blk b1 [.slice A2 a0_0.length c3,VI a0_1,VI x9] 67::L) W) ?_ ?_
 ·
  rintro a W ⟨x9,h,hF,hO⟩
  rw [hj10] at h
  refine TQ.use ?_ hF hO
  clear hF hO
  refine TQ.then_ ?_
  refine TC.seq ?_
  refine TC.region ?_
  refine TV rfl rfl rfl (Val.move rfl) ?_
  refine TV rfl rfl rfl (Val.nilCheck rfl) ?_
  refine TV rfl rfl rfl (Val.fieldAddrB Try.underlying67 rfl fsz33 rfl rfl rfl) ?_
  refine TV rfl rfl rfl (Val.loadB 0 agg33 rfl rfl rfl) ?_
  refine TV rfl rfl rfl (Val.cmp rfl rfl run_eql) ?_
  refine TV rfl rfl rfl (Val.assign rfl) ?_
  refine TL.nil ?_
  refine TQ.then_ ?_
  refine TC.ret ?_
  obtain rfl:=Option.some.inj h
  exact TQ.fin (.inl rfl) rfl Try.results66 (.tmp rfl .nil) rfl (FRel.mk (Ls:=[Blk b1 [.slice A2 a0_0.length c3,VI a0_1,VI x9] 67]) [0] 1 (Gd.le.refl _) rfl rfl rfl ⟨rfl,rfl,rfl⟩)
 ·
  refine TC.cond_p rfl h (fun hc11 h=>?_) (fun hc11 h=>?_)
  ·
   refine TC.region ?_
   refine TV rfl rfl rfl (Val.move rfl) ?_
   obtain ⟨y12,hy13,h⟩:=bind_no h
   refine TL.cons (TL.callV (Lin:=[Blk b1 [.slice A2 a0_0.length c3,VI a0_1,VI a0_2] 67]) (args:=[VP b1 0,VI 5]) rfl rfl rfl hbd63 rfl rfl (parse_parser_wrong.calls (a0_0:=a0_0) (a0_1:=a0_1) (a0_2:=a0_2) (a1:=5) hr4 hl5 hy13) rfl ?_)
   rintro _ _ _ _ ⟨rfl,rfl,rfl⟩
   refine TL.nil ?_
   exact fun a W hF hO=>⟨y12,h,hF.sub ⟨rfl,trivial⟩,hO.selT (Ls:=[Blk b1 [.slice A2 a0_0.length c3,VI a0_1,VI y12] 67]) [0] 1 rfl rfl rfl⟩
  ·
   refine TC.skip ?_
   exact fun a W hF hO=>⟨a0_2,h,hF.sub ⟨rfl,trivial⟩,hO.selT (Ls:=[Blk b1 [.slice A2 a0_0.length c3,VI a0_1,VI a0_2] 67]) [0] 1 rfl rfl rfl⟩
def parse_Word.f (a0:ByteArray):Option Bool:=jn (γ:=Bool) (fun (x68:Bool)=>(if x68=true then some true else some false)) (fun (j69:(Bool → Option Bool))=>(if (a0.data.toList == (⟨#[102,117,110,99]⟩:ByteArray).data.toList)=true then j69 (a0.data.toList == (⟨#[102,117,110,99]⟩:ByteArray).data.toList) else (if (a0.data.toList == (⟨#[118,97,114]⟩:ByteArray).data.toList)=true then j69 (a0.data.toList == (⟨#[118,97,114]⟩:ByteArray).data.toList) else (if (a0.data.toList == (⟨#[105,102]⟩:ByteArray).data.toList)=true then j69 (a0.data.toList == (⟨#[105,102]⟩:ByteArray).data.toList) else (if (a0.data.toList == (⟨#[101,108,115,101]⟩:ByteArray).data.toList)=true then j69 (a0.data.toList == (⟨#[101,108,115,101]⟩:ByteArray).data.toList) else (if (a0.data.toList == (⟨#[102,111,114]⟩:ByteArray).data.toList)=true then j69 (a0.data.toList == (⟨#[102,111,114]⟩:ByteArray).data.toList) else (if (a0.data.toList == (⟨#[114,101,116,117,114,110]⟩:ByteArray).data.toList)=true then j69 (a0.data.toList == (⟨#[114,101,116,117,114,110]⟩:ByteArray).data.toList) else (if (a0.data.toList == (⟨#[112,114,105,110,116]⟩:ByteArray).data.toList)=true then j69 (a0.data.toList == (⟨#[112,114,105,110,116]⟩:ByteArray).data.toList) else (if (a0.data.toList == (⟨#[110,101,119]⟩:ByteArray).data.toList)=true then j69 (a0.data.toList == (⟨#[110,101,119]⟩:ByteArray).data.toList) else (if (a0.data.toList == (⟨#[114,101,97,100]⟩:ByteArray).data.toList)=true then j69 (a0.data.toList == (⟨#[114,101,97,100]⟩:ByteArray).data.toList) else j69 (a0.data.toList == (⟨#[105,110,116]⟩:ByteArray).data.toList)))))))))))
def parse_Word.post (G:Gd)  (r:Bool) (v:Value) (G':Gd) (Lr:List Ch):Prop:=G=G'∧v=.bool r∧Lr=[]
theorem parse_Word.calls {G:Gd} {r:Bool} {a0:ByteArray} (h:parse_Word.f a0=some r):Fn Try.prog 15 G [] [.string a0] (parse_Word.post G  r):=by
 refine Fn.intro (e:=[(0,.string a0)]) 15 Try.func15 rfl Try.ntmps15 rfl rfl (Nat.le_of_ble_eq_true rfl) (fun L=>?_)
 unfold parse_Word.f at h
 refine TC.seq ?_
 refine TC.region ?_
 refine TV rfl rfl rfl (Val.assign rfl) ?_
 refine TL.nil ?_
 refine TQ.then_ ?_
 refine TC.seq ?_
 refine TC.seq ?_
 refine TC.region ?_
 refine TV rfl rfl rfl (Val.move rfl) ?_
 refine TL.nil ?_
 refine TQ.then_ ?_
 refine TC.block ?_
 refine TC.seq ?_
 refine TC.seq ?_
 refine TC.region ?_
 refine TV rfl rfl rfl (Val.eqT rfl rfl) ?_
 refine TV rfl rfl rfl (Val.assign rfl) ?_
 refine TL.nil ?_
 refine TQ.then_ ?_
 obtain ⟨j69,hj69,h⟩:=jn_no h
 refine TC.tail (fun a W=>∃ (x68:Bool),j69 x68=some r∧Fr 15 a [(4,.bool x68)]∧Own G (L) W) ?_ ?_
 ·
  rintro a W ⟨x68,h,hF,hO⟩
  rw [hj69] at h
  refine TQ.use ?_ hF hO
  clear hF hO
  refine TQ.then_ ?_
  refine TC.cond_b rfl h (fun hc71 h=>?_) (fun hc71 h=>?_)
  ·
   refine TC.seq ?_
   refine TC.region ?_
   refine TV rfl rfl rfl (Val.assign rfl) ?_
   refine TL.nil ?_
   refine TQ.then_ ?_
   refine TC.ret ?_
   refine TQ.inBR ?_
   refine TQ.thenR ?_
   obtain rfl:=Option.some.inj h
   exact TQ.fin (.inl rfl) rfl Try.results15 (.tmp rfl .nil) rfl (FRel.mk (Ls:=[]) [] 0 (Gd.le.refl _) rfl rfl rfl ⟨rfl,rfl,rfl⟩)
  ·
   refine TC.skip ?_
   refine TQ.inB ?_
   refine TQ.then_ ?_
   refine TC.seq ?_
   refine TC.region ?_
   refine TV rfl rfl rfl (Val.assign rfl) ?_
   refine TL.nil ?_
   refine TQ.then_ ?_
   refine TC.ret ?_
   obtain rfl:=Option.some.inj h
   exact TQ.fin (.inl rfl) rfl Try.results15 (.tmp rfl .nil) rfl (FRel.mk (Ls:=[]) [] 0 (Gd.le.refl _) rfl rfl rfl ⟨rfl,rfl,rfl⟩)
 ·
  refine TC.cond_b rfl h (fun hc72 h=>?_) (fun hc72 h=>?_)
  ·
   refine TC.skip ?_
   exact fun a W hF hO=>⟨(a0.data.toList == (⟨#[102,117,110,99]⟩:ByteArray).data.toList),h,hF.sub ⟨rfl,trivial⟩,hO.selT (Ls:=[]) [] 0 rfl rfl rfl⟩
  ·
   refine TC.seq ?_
   refine TC.region ?_
   refine TV rfl rfl rfl (Val.eqT rfl rfl) ?_
   refine TV rfl rfl rfl (Val.assign rfl) ?_
   refine TL.nil ?_
   refine TQ.then_ ?_
   refine TC.cond_b rfl h (fun hc81 h=>?_) (fun hc81 h=>?_)
   ·
    refine TC.skip ?_
    exact fun a W hF hO=>⟨(a0.data.toList == (⟨#[118,97,114]⟩:ByteArray).data.toList),h,hF.sub ⟨rfl,trivial⟩,hO.selT (Ls:=[]) [] 0 rfl rfl rfl⟩
   ·
    refine TC.seq ?_
    refine TC.region ?_
    refine TV rfl rfl rfl (Val.eqT rfl rfl) ?_
    refine TV rfl rfl rfl (Val.assign rfl) ?_
    refine TL.nil ?_
    refine TQ.then_ ?_
    refine TC.cond_b rfl h (fun hc89 h=>?_) (fun hc89 h=>?_)
    ·
     refine TC.skip ?_
     exact fun a W hF hO=>⟨(a0.data.toList == (⟨#[105,102]⟩:ByteArray).data.toList),h,hF.sub ⟨rfl,trivial⟩,hO.selT (Ls:=[]) [] 0 rfl rfl rfl⟩
    ·
     refine TC.seq ?_
     refine TC.region ?_
     refine TV rfl rfl rfl (Val.eqT rfl rfl) ?_
     refine TV rfl rfl rfl (Val.assign rfl) ?_
     refine TL.nil ?_
     refine TQ.then_ ?_
     refine TC.cond_b rfl h (fun hc96 h=>?_) (fun hc96 h=>?_)
     ·
      refine TC.skip ?_
      exact fun a W hF hO=>⟨(a0.data.toList == (⟨#[101,108,115,101]⟩:ByteArray).data.toList),h,hF.sub ⟨rfl,trivial⟩,hO.selT (Ls:=[]) [] 0 rfl rfl rfl⟩
     ·
      refine TC.seq ?_
      refine TC.region ?_
      refine TV rfl rfl rfl (Val.eqT rfl rfl) ?_
      refine TV rfl rfl rfl (Val.assign rfl) ?_
      refine TL.nil ?_
      refine TQ.then_ ?_
      refine TC.cond_b rfl h (fun hc102 h=>?_) (fun hc102 h=>?_)
      ·
       refine TC.skip ?_
       exact fun a W hF hO=>⟨(a0.data.toList == (⟨#[102,111,114]⟩:ByteArray).data.toList),h,hF.sub ⟨rfl,trivial⟩,hO.selT (Ls:=[]) [] 0 rfl rfl rfl⟩
      ·
       refine TC.seq ?_
       refine TC.region ?_
       refine TV rfl rfl rfl (Val.eqT rfl rfl) ?_
       refine TV rfl rfl rfl (Val.assign rfl) ?_
       refine TL.nil ?_
       refine TQ.then_ ?_
       refine TC.cond_b rfl h (fun hc107 h=>?_) (fun hc107 h=>?_)
       ·
        refine TC.skip ?_
        exact fun a W hF hO=>⟨(a0.data.toList == (⟨#[114,101,116,117,114,110]⟩:ByteArray).data.toList),h,hF.sub ⟨rfl,trivial⟩,hO.selT (Ls:=[]) [] 0 rfl rfl rfl⟩
       ·
        refine TC.seq ?_
        refine TC.region ?_
        refine TV rfl rfl rfl (Val.eqT rfl rfl) ?_
        refine TV rfl rfl rfl (Val.assign rfl) ?_
        refine TL.nil ?_
        refine TQ.then_ ?_
        refine TC.cond_b rfl h (fun hc111 h=>?_) (fun hc111 h=>?_)
        ·
         refine TC.skip ?_
         exact fun a W hF hO=>⟨(a0.data.toList == (⟨#[112,114,105,110,116]⟩:ByteArray).data.toList),h,hF.sub ⟨rfl,trivial⟩,hO.selT (Ls:=[]) [] 0 rfl rfl rfl⟩
        ·
         refine TC.seq ?_
         refine TC.region ?_
         refine TV rfl rfl rfl (Val.eqT rfl rfl) ?_
         refine TV rfl rfl rfl (Val.assign rfl) ?_
         refine TL.nil ?_
         refine TQ.then_ ?_
         refine TC.cond_b rfl h (fun hc114 h=>?_) (fun hc114 h=>?_)
         ·
          refine TC.skip ?_
          exact fun a W hF hO=>⟨(a0.data.toList == (⟨#[110,101,119]⟩:ByteArray).data.toList),h,hF.sub ⟨rfl,trivial⟩,hO.selT (Ls:=[]) [] 0 rfl rfl rfl⟩
         ·
          refine TC.seq ?_
          refine TC.region ?_
          refine TV rfl rfl rfl (Val.eqT rfl rfl) ?_
          refine TV rfl rfl rfl (Val.assign rfl) ?_
          refine TL.nil ?_
          refine TQ.then_ ?_
          refine TC.cond_b rfl h (fun hc116 h=>?_) (fun hc116 h=>?_)
          ·
           refine TC.skip ?_
           exact fun a W hF hO=>⟨(a0.data.toList == (⟨#[114,101,97,100]⟩:ByteArray).data.toList),h,hF.sub ⟨rfl,trivial⟩,hO.selT (Ls:=[]) [] 0 rfl rfl rfl⟩
          ·
           refine TC.region ?_
           refine TV rfl rfl rfl (Val.eqT rfl rfl) ?_
           refine TV rfl rfl rfl (Val.assign rfl) ?_
           refine TL.nil ?_
           exact fun a W hF hO=>⟨(a0.data.toList == (⟨#[105,110,116]⟩:ByteArray).data.toList),h,hF.sub ⟨rfl,trivial⟩,hO.selT (Ls:=[]) [] 0 rfl rfl rfl⟩
def parse_parser_token.f (a0_0:(List S41)) (a0_1:Int) (a0_2:Int):Option S41:=jn (γ:=S41) (fun (x13:Bool)=>(if x13=true then some (⟨0,(⟨#[]⟩:ByteArray),0⟩:S41) else (at? a0_0 a0_1).bind fun y26=>some y26)) (fun (j14:(Bool → Option S41))=>(if (!decide (a0_2=0))=true then j14 true else j14 (decide ((a0_0.length:Int) ≤ a0_1))))
def parse_parser_token.post (G:Gd) (b1:Nat) (A2:Option Addr) (c3:Nat) (a0_0:(List S41)) (a0_1:Int) (a0_2:Int) (r:S41) (v:Value) (G':Gd) (Lr:List Ch):Prop:=G=G'∧v=.agg #[VI r.f0,.string r.f1,VI r.f2]∧Lr=[Blk b1 [.slice A2 a0_0.length c3,VI a0_1,VI a0_2] 67]
theorem parse_parser_token.calls {G:Gd} {r:S41} {a0_0:(List S41)} {a0_1:Int} {a0_2:Int} {b1:Nat} {A2:Option Addr} {c3:Nat} (hr4:Rd G k41 A2 a0_0) (hl5:a0_0.length ≤ c3) (h:parse_parser_token.f a0_0 a0_1 a0_2=some r):Fn Try.prog 65 G [Blk b1 [.slice A2 a0_0.length c3,VI a0_1,VI a0_2] 67] [VP b1 0] (parse_parser_token.post G b1 A2 c3 a0_0 a0_1 a0_2 r):=by
 refine Fn.intro (e:=[(0,VP b1 0)]) 31 Try.func65 rfl Try.ntmps65 rfl rfl (Nat.le_of_ble_eq_true rfl) (fun L=>?_)
 unfold parse_parser_token.f at h
 refine TC.seq ?_
 refine TC.region ?_
 refine TL.cons (TL.alloc (cs:=[VI 0,.string (⟨#[]⟩:ByteArray),VI 0]) rfl rfl zr41 rfl (fun b6=>?_))
 refine TL.nil ?_
 refine TQ.then_ ?_
 refine TC.seq ?_
 refine TC.seq ?_
 obtain ⟨j14,hj14,h⟩:=jn_no h
 refine TC.tail (fun a W=>∃ (x13:Bool),j14 x13=some r∧Fr 31 a [(0,VP b1 0),(2,VP b6 0),(19,.bool x13)]∧Own G (Blk b1 [.slice A2 a0_0.length c3,VI a0_1,VI a0_2] 67::Blk b6 [VI 0,.string (⟨#[]⟩:ByteArray),VI 0] 41::L) W) ?_ ?_
 ·
  rintro a W ⟨x13,h,hF,hO⟩
  rw [hj14] at h
  refine TQ.use ?_ hF hO
  clear hF hO
  refine TQ.then_ ?_
  refine TC.cond_b rfl h (fun hc16 h=>?_) (fun hc16 h=>?_)
  ·
   refine TC.seq ?_
   refine TC.region ?_
   refine TV rfl rfl rfl (Val.build (cs:=[VI 0,.string (⟨#[]⟩:ByteArray),VI 0]) (is:=[]) (xs:=[]) Try.underlying41 zr41 bld41 rfl rfl rfl rfl) ?_
   refine TL.cons (TL.store 1 (ds:=[VI 0,.string (⟨#[]⟩:ByteArray),VI 0]) (cs':=[VI 0,.string (⟨#[]⟩:ByteArray),VI 0]) (L':=(Blk b1 [.slice A2 a0_0.length c3,VI a0_1,VI a0_2] 67::Blk b6 [VI 0,.string (⟨#[]⟩:ByteArray),VI 0] 41::L)) rfl fsz41 rfl rfl rfl rfl rfl (Nat.le_of_ble_eq_true rfl) rfl rfl ?_)
   refine TL.nil ?_
   refine TQ.then_ ?_
   refine TC.ret ?_
   refine TQ.thenR ?_
   obtain rfl:=Option.some.inj h
   exact TQ.fin (.inl rfl) rfl Try.results65 (.cells 1 rfl rfl agg41 fsz41 .nil) rfl (FRel.mk (Ls:=[Blk b1 [.slice A2 a0_0.length c3,VI a0_1,VI a0_2] 67]) [0] 2 (Gd.le.refl _) rfl rfl rfl ⟨rfl,rfl,rfl⟩)
  ·
   refine TC.skip ?_
   refine TQ.then_ ?_
   refine TC.seq ?_
   refine TC.regionAnyS (L0:=(Blk b1 [.slice A2 a0_0.length c3,VI a0_1,VI a0_2] 67::L)) [] [0,1,2,3,4,5,6,7,8,9] mixed (by kernel_rfl) ?_
   refine TA.take 0 rfl (by kernel_rfl) rfl (PQ.then_ PQ.body) rfl (Val.move rfl) (fun W hO=>hO.selT (Ls:=[Blk b1 [.slice A2 a0_0.length c3,VI a0_1,VI a0_2] 67]) [0] 2 rfl rfl rfl) ?_
   refine TA.take 1 rfl (by kernel_rfl) rfl (PQ.then_ PQ.body) rfl (Val.nilCheck rfl) (fun W hO=>hO.selT (Ls:=[Blk b1 [.slice A2 a0_0.length c3,VI a0_1,VI a0_2] 67]) [0] 2 rfl rfl rfl) ?_
   refine TA.take 2 rfl (by kernel_rfl) rfl (PQ.then_ PQ.body) rfl (Val.fieldAddrB Try.underlying67 rfl fsz32 rfl rfl rfl) (fun W hO=>hO.selT (Ls:=[Blk b1 [.slice A2 a0_0.length c3,VI a0_1,VI a0_2] 67]) [0] 2 rfl rfl rfl) ?_
   refine TA.take 3 rfl (by kernel_rfl) rfl (PQ.then_ PQ.body) rfl (Val.loadB 0 agg32 rfl rfl rfl) (fun W hO=>hO.selT (Ls:=[Blk b1 [.slice A2 a0_0.length c3,VI a0_1,VI a0_2] 67]) [0] 2 rfl rfl rfl) ?_
   refine TA.take 4 rfl (by kernel_rfl) rfl (PQ.then_ PQ.body) rfl (Val.move rfl) (fun W hO=>hO.selT (Ls:=[Blk b1 [.slice A2 a0_0.length c3,VI a0_1,VI a0_2] 67]) [0] 2 rfl rfl rfl) ?_
   refine TA.take 5 rfl (by kernel_rfl) rfl (PQ.then_ PQ.body) rfl (Val.nilCheck rfl) (fun W hO=>hO.selT (Ls:=[Blk b1 [.slice A2 a0_0.length c3,VI a0_1,VI a0_2] 67]) [0] 2 rfl rfl rfl) ?_
   refine TA.take 6 rfl (by kernel_rfl) rfl (PQ.then_ PQ.body) rfl (Val.fieldAddrB Try.underlying67 rfl fsz3 rfl rfl rfl) (fun W hO=>hO.selT (Ls:=[Blk b1 [.slice A2 a0_0.length c3,VI a0_1,VI a0_2] 67]) [0] 2 rfl rfl rfl) ?_
   refine TA.take 7 rfl (by kernel_rfl) rfl (PQ.then_ PQ.body) rfl (Val.loadB 0 agg3 rfl rfl rfl) (fun W hO=>hO.selT (Ls:=[Blk b1 [.slice A2 a0_0.length c3,VI a0_1,VI a0_2] 67]) [0] 2 rfl rfl rfl) ?_
   obtain ⟨y26,hx27,h⟩:=bind_no h
   obtain ⟨ad28,cs34,hA29,hi30,hj31,hcl32,hK33⟩:=Rd.at hr4 hx27
   obtain rfl:=k41_openR hK33
   refine TA.take 8 rfl (by kernel_rfl) rfl (PQ.then_ PQ.body) rfl (Val.indexAddr Try.underlying32 fsz41 rfl hA29 rfl hi30 hj31) (fun W hO=>hO.selT (Ls:=[Blk b1 [.slice A2 a0_0.length c3,VI a0_1,VI a0_2] 67]) [0] 2 rfl rfl rfl) ?_
   refine TA.take 9 rfl (by kernel_rfl) rfl (PQ.then_ PQ.body) rfl (Val.loadsS (cs:=[VI y26.f0,.string y26.f1,VI y26.f2]) agg41 fsz41 rfl rfl (Cl.sub (off:=0) (n:=3) hcl32 rfl)) (fun W hO=>hO.selT (Ls:=[Blk b1 [.slice A2 a0_0.length c3,VI a0_1,VI a0_2] 67]) [0] 2 rfl rfl rfl) ?_
   refine TA.eff 10 rfl (by kernel_rfl) rfl (TL.store 1 (ds:=[VI y26.f0,.string y26.f1,VI y26.f2]) (cs':=[VI y26.f0,.string y26.f1,VI y26.f2]) (L':=(Blk b1 [.slice A2 a0_0.length c3,VI a0_1,VI a0_2] 67::Blk b6 [VI y26.f0,.string y26.f1,VI y26.f2] 41::L)) rfl fsz41 rfl rfl rfl rfl rfl (Nat.le_of_ble_eq_true rfl) rfl rfl ?_)
   refine TA.next (fun W hO=>hO.selT (Ls:=[Blk b1 [.slice A2 a0_0.length c3,VI a0_1,VI a0_2] 67]) [0] 2 rfl rfl rfl) ?_
   refine TA.done (by kernel_rfl) ?_
   refine TQ.then_ ?_
   refine TC.ret ?_
   obtain rfl:=Option.some.inj h
   exact TQ.fin (.inl rfl) rfl Try.results65 (.cells 1 rfl rfl agg41 fsz41 .nil) rfl (FRel.mk (Ls:=[Blk b1 [.slice A2 a0_0.length c3,VI a0_1,VI a0_2] 67]) [0] 2 (Gd.le.refl _) rfl rfl rfl ⟨rfl,rfl,rfl⟩)
 ·
  refine TC.regionAny [] [0,1,2,3,4,5,6,7,8,9,10,11,12,13,14,15,16] mixed (by kernel_rfl) ?_
  refine TA.take 0 rfl (by kernel_rfl) rfl (PQ.then_ (PQ.then_ (PQ.then_ PQ.body))) rfl (Val.move rfl) (fun W hO=>hO) ?_
  refine TA.take 1 rfl (by kernel_rfl) rfl (PQ.then_ (PQ.then_ (PQ.then_ PQ.body))) rfl (Val.nilCheck rfl) (fun W hO=>hO) ?_
  refine TA.take 2 rfl (by kernel_rfl) rfl (PQ.then_ (PQ.then_ (PQ.then_ PQ.body))) rfl (Val.fieldAddrB Try.underlying67 rfl fsz33 rfl rfl rfl) (fun W hO=>hO) ?_
  refine TA.take 3 rfl (by kernel_rfl) rfl (PQ.then_ (PQ.then_ (PQ.then_ PQ.body))) rfl (Val.loadB 1 agg33 rfl rfl rfl) (fun W hO=>hO) ?_
  refine TA.take 4 rfl (by kernel_rfl) rfl (PQ.then_ (PQ.then_ (PQ.then_ PQ.body))) rfl (Val.cmp rfl rfl run_neq) (fun W hO=>hO) ?_
  refine TA.take 5 rfl (by kernel_rfl) rfl (PQ.then_ (PQ.then_ (PQ.then_ PQ.body))) rfl (Val.move rfl) (fun W hO=>hO) ?_
  refine TK.split (p:=(!decide (a0_2=0))=true) h (fun hg38 h=>?_) (fun hg38 h=>?_)
  ·
   have hk39:(!decide (a0_2=0))=true:=hg38
   refine TA.not 6 rfl (by kernel_rfl) rfl (PQ.then_ (PQ.then_ (PQ.then_ PQ.body))) (Wt.no rfl rfl rfl hk39) (fun W hO=>hO) ?_
   refine TA.not 7 rfl (by kernel_rfl) rfl (PQ.then_ (PQ.then_ (PQ.then_ PQ.body))) (Wt.no rfl rfl rfl hk39) (fun W hO=>hO) ?_
   refine TA.not 8 rfl (by kernel_rfl) rfl (PQ.then_ (PQ.then_ (PQ.then_ PQ.body))) (Wt.no rfl rfl rfl hk39) (fun W hO=>hO) ?_
   refine TA.not 9 rfl (by kernel_rfl) rfl (PQ.then_ (PQ.then_ (PQ.then_ PQ.body))) (Wt.no rfl rfl rfl hk39) (fun W hO=>hO) ?_
   refine TA.not 10 rfl (by kernel_rfl) rfl (PQ.then_ (PQ.then_ (PQ.then_ PQ.body))) (Wt.no rfl rfl rfl hk39) (fun W hO=>hO) ?_
   refine TA.not 11 rfl (by kernel_rfl) rfl (PQ.then_ (PQ.then_ (PQ.then_ PQ.body))) (Wt.no rfl rfl rfl hk39) (fun W hO=>hO) ?_
   refine TA.not 12 rfl (by kernel_rfl) rfl (PQ.then_ (PQ.then_ (PQ.then_ PQ.body))) (Wt.no rfl rfl rfl hk39) (fun W hO=>hO) ?_
   refine TA.not 13 rfl (by kernel_rfl) rfl (PQ.then_ (PQ.then_ (PQ.then_ PQ.body))) (Wt.no rfl rfl rfl hk39) (fun W hO=>hO) ?_
   refine TA.not 14 rfl (by kernel_rfl) rfl (PQ.then_ (PQ.then_ (PQ.then_ PQ.body))) (Wt.no rfl rfl rfl hk39) (fun W hO=>hO) ?_
   refine TA.not 15 rfl (by kernel_rfl) rfl (PQ.then_ (PQ.then_ (PQ.then_ PQ.body))) (Wt.no rfl rfl rfl hk39) (fun W hO=>hO) ?_
   refine TA.take 16 rfl (by kernel_rfl) rfl (PQ.then_ (PQ.then_ (PQ.then_ PQ.body))) rfl (Val.pickY rfl hk39 rfl) (fun W hO=>hO) ?_
   refine TA.done (by kernel_rfl) ?_
   exact fun a W hF hO=>⟨true,h,hF.sub ⟨rfl,rfl,rfl,trivial⟩,hO.selT (Ls:=[Blk b1 [.slice A2 a0_0.length c3,VI a0_1,VI a0_2] 67,Blk b6 [VI 0,.string (⟨#[]⟩:ByteArray),VI 0] 41]) [1,0] 2 rfl rfl rfl⟩
  ·
   have hk40:(!decide (a0_2=0))=false:=(by simpa using hg38)
   refine TA.take 6 rfl (by kernel_rfl) rfl (PQ.then_ (PQ.then_ (PQ.then_ PQ.body))) (Wt.yes rfl rfl rfl hk40) (Val.move rfl) (fun W hO=>hO) ?_
   refine TA.take 7 rfl (by kernel_rfl) rfl (PQ.then_ (PQ.then_ (PQ.then_ PQ.body))) (Wt.yes rfl rfl rfl hk40) (Val.nilCheck rfl) (fun W hO=>hO) ?_
   refine TA.take 8 rfl (by kernel_rfl) rfl (PQ.then_ (PQ.then_ (PQ.then_ PQ.body))) (Wt.yes rfl rfl rfl hk40) (Val.fieldAddrB Try.underlying67 rfl fsz3 rfl rfl rfl) (fun W hO=>hO) ?_
   refine TA.take 9 rfl (by kernel_rfl) rfl (PQ.then_ (PQ.then_ (PQ.then_ PQ.body))) (Wt.yes rfl rfl rfl hk40) (Val.loadB 1 agg3 rfl rfl rfl) (fun W hO=>hO) ?_
   refine TA.take 10 rfl (by kernel_rfl) rfl (PQ.then_ (PQ.then_ (PQ.then_ PQ.body))) (Wt.yes rfl rfl rfl hk40) (Val.move rfl) (fun W hO=>hO) ?_
   refine TA.take 11 rfl (by kernel_rfl) rfl (PQ.then_ (PQ.then_ (PQ.then_ PQ.body))) (Wt.yes rfl rfl rfl hk40) (Val.nilCheck rfl) (fun W hO=>hO) ?_
   refine TA.take 12 rfl (by kernel_rfl) rfl (PQ.then_ (PQ.then_ (PQ.then_ PQ.body))) (Wt.yes rfl rfl rfl hk40) (Val.fieldAddrB Try.underlying67 rfl fsz32 rfl rfl rfl) (fun W hO=>hO) ?_
   refine TA.take 13 rfl (by kernel_rfl) rfl (PQ.then_ (PQ.then_ (PQ.then_ PQ.body))) (Wt.yes rfl rfl rfl hk40) (Val.loadB 1 agg32 rfl rfl rfl) (fun W hO=>hO) ?_
   refine TA.take 14 rfl (by kernel_rfl) rfl (PQ.then_ (PQ.then_ (PQ.then_ PQ.body))) (Wt.yes rfl rfl rfl hk40) (Val.len Try.underlying32 rfl) (fun W hO=>hO) ?_
   refine TA.take 15 rfl (by kernel_rfl) rfl (PQ.then_ (PQ.then_ (PQ.then_ PQ.body))) (Wt.yes rfl rfl rfl hk40) (Val.cmp rfl rfl run_geq) (fun W hO=>hO) ?_
   refine TA.take 16 rfl (by kernel_rfl) rfl (PQ.then_ (PQ.then_ (PQ.then_ PQ.body))) rfl (Val.pickN rfl hk40 rfl) (fun W hO=>hO) ?_
   refine TA.done (by kernel_rfl) ?_
   exact fun a W hF hO=>⟨decide ((a0_0.length:Int) ≤ a0_1),h,hF.sub ⟨rfl,rfl,rfl,trivial⟩,hO.selT (Ls:=[Blk b1 [.slice A2 a0_0.length c3,VI a0_1,VI a0_2] 67,Blk b6 [VI 0,.string (⟨#[]⟩:ByteArray),VI 0] 41]) [1,0] 2 rfl rfl rfl⟩
def parse_parser_fixed.f (a0_0:(List S41)) (a0_1:Int) (a0_2:Int):Option ByteArray:=(parse_parser_token.f a0_0 a0_1 a0_2).bind fun (y6:S41)=>jn (γ:=ByteArray) (fun (x17:Bool)=>(if x17=true then some y6.f1 else some (⟨#[]⟩:ByteArray))) (fun (j18:(Bool → Option ByteArray))=>(if y6.f0=3 then j18 true else (if y6.f0=1 then (parse_Word.f y6.f1).bind fun (y26:Bool)=>j18 y26 else j18 false)))
def parse_parser_fixed.post (G:Gd) (b1:Nat) (A2:Option Addr) (c3:Nat) (a0_0:(List S41)) (a0_1:Int) (a0_2:Int) (r:ByteArray) (v:Value) (G':Gd) (Lr:List Ch):Prop:=G=G'∧v=.string r∧Lr=[Blk b1 [.slice A2 a0_0.length c3,VI a0_1,VI a0_2] 67]
theorem parse_parser_fixed.calls {G:Gd} {r:ByteArray} {a0_0:(List S41)} {a0_1:Int} {a0_2:Int} {b1:Nat} {A2:Option Addr} {c3:Nat} (hr4:Rd G k41 A2 a0_0) (hl5:a0_0.length ≤ c3) (h:parse_parser_fixed.f a0_0 a0_1 a0_2=some r):Fn Try.prog 45 G [Blk b1 [.slice A2 a0_0.length c3,VI a0_1,VI a0_2] 67] [VP b1 0] (parse_parser_fixed.post G b1 A2 c3 a0_0 a0_1 a0_2 r):=by
 refine Fn.intro (e:=[(0,VP b1 0)]) 21 Try.func45 rfl Try.ntmps45 rfl rfl (Nat.le_of_ble_eq_true rfl) (fun L=>?_)
 unfold parse_parser_fixed.f at h
 refine TC.seq ?_
 refine TC.region ?_
 refine TV rfl rfl rfl (Val.assign rfl) ?_
 refine TL.nil ?_
 refine TQ.then_ ?_
 refine TC.seq ?_
 refine TC.region ?_
 refine TV rfl rfl rfl (Val.move rfl) ?_
 obtain ⟨y6,hy7,h⟩:=bind_no h
 refine TL.cons (TL.callV (Lin:=[Blk b1 [.slice A2 a0_0.length c3,VI a0_1,VI a0_2] 67]) (args:=[VP b1 0]) rfl rfl rfl hbd65 rfl rfl (parse_parser_token.calls (a0_0:=a0_0) (a0_1:=a0_1) (a0_2:=a0_2) hr4 hl5 hy7) rfl ?_)
 rintro _ _ _ _ ⟨rfl,rfl,rfl⟩
 refine TL.cons (TL.alloc (cs:=[VI 0,.string (⟨#[]⟩:ByteArray),VI 0]) rfl rfl zr41 rfl (fun b8=>?_))
 refine TL.cons (TL.store 0 (ds:=[VI y6.f0,.string y6.f1,VI y6.f2]) (cs':=[VI y6.f0,.string y6.f1,VI y6.f2]) (L':=(Blk b8 [VI y6.f0,.string y6.f1,VI y6.f2] 41::Blk b1 [.slice A2 a0_0.length c3,VI a0_1,VI a0_2] 67::L)) rfl fsz41 rfl rfl rfl rfl rfl (Nat.le_of_ble_eq_true rfl) rfl rfl ?_)
 refine TL.nil ?_
 refine TQ.then_ ?_
 refine TC.seq ?_
 refine TC.seq ?_
 obtain ⟨j18,hj18,h⟩:=jn_no h
 refine TC.tail (fun a W=>∃ (x17:Bool),j18 x17=some r∧Fr 21 a [(3,VP b8 0),(18,.bool x17)]∧Own G (Blk b1 [.slice A2 a0_0.length c3,VI a0_1,VI a0_2] 67::Blk b8 [VI y6.f0,.string y6.f1,VI y6.f2] 41::L) W) ?_ ?_
 ·
  rintro a W ⟨x17,h,hF,hO⟩
  rw [hj18] at h
  refine TQ.use ?_ hF hO
  clear hF hO
  refine TQ.then_ ?_
  refine TC.cond_b rfl h (fun hc20 h=>?_) (fun hc20 h=>?_)
  ·
   refine TC.seq ?_
   refine TC.region ?_
   refine TV rfl rfl rfl (Val.fieldAddrB Try.underlying41 rfl fsz9 rfl rfl rfl) ?_
   refine TV rfl rfl rfl (Val.loadB 1 agg9 rfl rfl rfl) ?_
   refine TV rfl rfl rfl (Val.assign rfl) ?_
   refine TL.nil ?_
   refine TQ.then_ ?_
   refine TC.ret ?_
   refine TQ.thenR ?_
   obtain rfl:=Option.some.inj h
   exact TQ.fin (.inl rfl) rfl Try.results45 (.tmp rfl .nil) rfl (FRel.mk (Ls:=[Blk b1 [.slice A2 a0_0.length c3,VI a0_1,VI a0_2] 67]) [0] 2 (Gd.le.refl _) rfl rfl rfl ⟨rfl,rfl,rfl⟩)
  ·
   refine TC.skip ?_
   refine TQ.then_ ?_
   refine TC.seq ?_
   refine TC.region ?_
   refine TV rfl rfl rfl (Val.assign rfl) ?_
   refine TL.nil ?_
   refine TQ.then_ ?_
   refine TC.ret ?_
   obtain rfl:=Option.some.inj h
   exact TQ.fin (.inl rfl) rfl Try.results45 (.tmp rfl .nil) rfl (FRel.mk (Ls:=[Blk b1 [.slice A2 a0_0.length c3,VI a0_1,VI a0_2] 67]) [0] 2 (Gd.le.refl _) rfl rfl rfl ⟨rfl,rfl,rfl⟩)
 ·
  refine TC.region ?_
  refine TV rfl rfl rfl (Val.fieldAddrB Try.underlying41 rfl fsz3 rfl rfl rfl) ?_
  refine TV rfl rfl rfl (Val.loadB 0 agg3 rfl rfl rfl) ?_
  refine TV rfl rfl rfl (Val.cmp rfl rfl run_eql) ?_
  refine TV rfl rfl rfl (Val.move rfl) ?_
  refine TK.split (p:=y6.f0=3) h (fun hg21 h=>?_) (fun hg21 h=>?_)
  ·
   have hk22:decide (y6.f0=3)=true:=decide_eq_true hg21
   refine TL.cons (TL.not (Wt.no rfl rfl rfl hk22) rfl ?_)
   refine TL.cons (TL.not (Wt.no rfl rfl rfl hk22) rfl ?_)
   refine TL.cons (TL.not (Wt.no rfl rfl rfl hk22) rfl ?_)
   refine TL.cons (TL.not (Wt.no rfl rfl rfl hk22) rfl ?_)
   refine TL.cons (TL.not rfl rfl ?_)
   refine TL.cons (TL.not rfl rfl ?_)
   refine TL.cons (TL.not rfl rfl ?_)
   refine TL.cons (TL.not (Wt.no rfl rfl rfl hk22) rfl ?_)
   refine TV rfl rfl rfl (Val.pickY rfl hk22 rfl) ?_
   refine TL.nil ?_
   exact fun a W hF hO=>⟨true,h,hF.sub ⟨rfl,rfl,trivial⟩,hO.selT (Ls:=[Blk b1 [.slice A2 a0_0.length c3,VI a0_1,VI a0_2] 67,Blk b8 [VI y6.f0,.string y6.f1,VI y6.f2] 41]) [1,0] 2 rfl rfl rfl⟩
  ·
   have hk23:decide (y6.f0=3)=false:=decide_eq_false hg21
   refine TV (Wt.yes rfl rfl rfl hk23) rfl rfl (Val.fieldAddrB Try.underlying41 rfl fsz3 rfl rfl rfl) ?_
   refine TV (Wt.yes rfl rfl rfl hk23) rfl rfl (Val.loadB 0 agg3 rfl rfl rfl) ?_
   refine TV (Wt.yes rfl rfl rfl hk23) rfl rfl (Val.cmp rfl rfl run_eql) ?_
   refine TV (Wt.yes rfl rfl rfl hk23) rfl rfl (Val.move rfl) ?_
   refine TK.split (p:=y6.f0=1) h (fun hg24 h=>?_) (fun hg24 h=>?_)
   ·
    have hk25:decide (y6.f0=1)=true:=decide_eq_true hg24
    refine TV (Wt.yes rfl rfl rfl hk25) rfl rfl (Val.fieldAddrB Try.underlying41 rfl fsz9 rfl rfl rfl) ?_
    refine TV (Wt.yes rfl rfl rfl hk25) rfl rfl (Val.loadB 0 agg9 rfl rfl rfl) ?_
    obtain ⟨y26,hy27,h⟩:=bind_no h
    refine TL.cons (TL.callV (Lin:=[]) (args:=[.string y6.f1]) (Wt.yes rfl rfl rfl hk25) rfl rfl hbd15 rfl rfl (parse_Word.calls (a0:=y6.f1) hy27) rfl ?_)
    rintro _ _ _ _ ⟨rfl,rfl,rfl⟩
    refine TV (Wt.yes rfl rfl rfl hk23) rfl rfl (Val.pickY rfl hk25 rfl) ?_
    refine TV rfl rfl rfl (Val.pickN rfl hk23 rfl) ?_
    refine TL.nil ?_
    exact fun a W hF hO=>⟨y26,h,hF.sub ⟨rfl,rfl,trivial⟩,hO.selT (Ls:=[Blk b1 [.slice A2 a0_0.length c3,VI a0_1,VI a0_2] 67,Blk b8 [VI y6.f0,.string y6.f1,VI y6.f2] 41]) [1,0] 2 rfl rfl rfl⟩
   ·
    have hk28:decide (y6.f0=1)=false:=decide_eq_false hg24
    refine TL.cons (TL.not (Wt.no rfl rfl rfl hk28) rfl ?_)
    refine TL.cons (TL.not (Wt.no rfl rfl rfl hk28) rfl ?_)
    refine TL.cons (TL.not (Wt.no rfl rfl rfl hk28) rfl ?_)
    refine TV (Wt.yes rfl rfl rfl hk23) rfl rfl (Val.pickN rfl hk28 rfl) ?_
    refine TV rfl rfl rfl (Val.pickN rfl hk23 rfl) ?_
    refine TL.nil ?_
    exact fun a W hF hO=>⟨false,h,hF.sub ⟨rfl,rfl,trivial⟩,hO.selT (Ls:=[Blk b1 [.slice A2 a0_0.length c3,VI a0_1,VI a0_2] 67,Blk b8 [VI y6.f0,.string y6.f1,VI y6.f2] 41]) [1,0] 2 rfl rfl rfl⟩
def parse_parser_take.f (a0_0:(List S41)) (a0_1:Int) (a0_2:Int) (a1:ByteArray):Option (Bool × Int):=(parse_parser_fixed.f a0_0 a0_1 a0_2).bind fun (y6:ByteArray)=>(if (!(y6.data.toList == a1.data.toList))=true then some (false,a0_1) else some (true,IntKind.i64.wrap (a0_1 + 1)))
def parse_parser_take.post (G:Gd) (b1:Nat) (A2:Option Addr) (c3:Nat) (a0_0:(List S41)) (a0_1:Int) (a0_2:Int) (a1:ByteArray) (r:(Bool × Int)) (v:Value) (G':Gd) (Lr:List Ch):Prop:=G=G'∧v=.bool r.1∧Lr=[Blk b1 [.slice A2 a0_0.length c3,VI r.2,VI a0_2] 67]
theorem parse_parser_take.calls {G:Gd} {r:(Bool × Int)} {a0_0:(List S41)} {a0_1:Int} {a0_2:Int} {a1:ByteArray} {b1:Nat} {A2:Option Addr} {c3:Nat} (hr4:Rd G k41 A2 a0_0) (hl5:a0_0.length ≤ c3) (h:parse_parser_take.f a0_0 a0_1 a0_2 a1=some r):Fn Try.prog 62 G [Blk b1 [.slice A2 a0_0.length c3,VI a0_1,VI a0_2] 67] [VP b1 0,.string a1] (parse_parser_take.post G b1 A2 c3 a0_0 a0_1 a0_2 a1 r):=by
 refine Fn.intro (e:=[(0,VP b1 0),(1,.string a1)]) 16 Try.func62 rfl Try.ntmps62 rfl rfl (Nat.le_of_ble_eq_true rfl) (fun L=>?_)
 unfold parse_parser_take.f at h
 refine TC.seq ?_
 refine TC.region ?_
 refine TV rfl rfl rfl (Val.assign rfl) ?_
 refine TL.nil ?_
 refine TQ.then_ ?_
 refine TC.seq ?_
 refine TC.seq ?_
 refine TC.region ?_
 refine TV rfl rfl rfl (Val.move rfl) ?_
 obtain ⟨y6,hy7,h⟩:=bind_no h
 refine TL.cons (TL.callV (Lin:=[Blk b1 [.slice A2 a0_0.length c3,VI a0_1,VI a0_2] 67]) (args:=[VP b1 0]) rfl rfl rfl hbd45 rfl rfl (parse_parser_fixed.calls (a0_0:=a0_0) (a0_1:=a0_1) (a0_2:=a0_2) hr4 hl5 hy7) rfl ?_)
 rintro _ _ _ _ ⟨rfl,rfl,rfl⟩
 refine TV rfl rfl rfl (Val.move rfl) ?_
 refine TV rfl rfl rfl (Val.neT rfl rfl) ?_
 refine TL.nil ?_
 refine TQ.then_ ?_
 refine TC.cond_b rfl h (fun hc9 h=>?_) (fun hc9 h=>?_)
 ·
  refine TC.seq ?_
  refine TC.region ?_
  refine TV rfl rfl rfl (Val.assign rfl) ?_
  refine TL.nil ?_
  refine TQ.then_ ?_
  refine TC.ret ?_
  refine TQ.thenR ?_
  obtain rfl:=Option.some.inj h
  exact TQ.fin (.inl rfl) rfl Try.results62 (.tmp rfl .nil) rfl (FRel.mk (Ls:=[Blk b1 [.slice A2 a0_0.length c3,VI a0_1,VI a0_2] 67]) [0] 1 (Gd.le.refl _) rfl rfl rfl ⟨rfl,rfl,rfl⟩)
 ·
  refine TC.skip ?_
  refine TQ.then_ ?_
  refine TC.seq ?_
  refine TC.region ?_
  refine TV rfl rfl rfl (Val.move rfl) ?_
  refine TV rfl rfl rfl (Val.nilCheck rfl) ?_
  refine TV rfl rfl rfl (Val.fieldAddrB Try.underlying67 rfl fsz3 rfl rfl rfl) ?_
  refine TV rfl rfl rfl (Val.loadB 0 agg3 rfl rfl rfl) ?_
  refine TV rfl rfl rfl (Val.cmp rfl rfl run_add) ?_
  refine TV rfl rfl rfl (Val.nilCheck rfl) ?_
  refine TV rfl rfl rfl (Val.fieldAddrB Try.underlying67 rfl fsz3 rfl rfl rfl) ?_
  refine TL.cons (TL.store 0 (ds:=[VI (IntKind.i64.wrap (a0_1 + 1))]) (cs':=[.slice A2 a0_0.length c3,VI (IntKind.i64.wrap (a0_1 + 1)),VI a0_2]) (L':=(Blk b1 [.slice A2 a0_0.length c3,VI (IntKind.i64.wrap (a0_1 + 1)),VI a0_2] 67::L)) rfl fsz3 rfl rfl rfl rfl rfl (Nat.le_of_ble_eq_true rfl) rfl rfl ?_)
  refine TL.nil ?_
  refine TQ.then_ ?_
  refine TC.seq ?_
  refine TC.region ?_
  refine TV rfl rfl rfl (Val.assign rfl) ?_
  refine TL.nil ?_
  refine TQ.then_ ?_
  refine TC.ret ?_
  obtain rfl:=Option.some.inj h
  exact TQ.fin (.inl rfl) rfl Try.results62 (.tmp rfl .nil) rfl (FRel.mk (Ls:=[Blk b1 [.slice A2 a0_0.length c3,VI (IntKind.i64.wrap (a0_1 + 1)),VI a0_2] 67]) [0] 1 (Gd.le.refl _) rfl rfl rfl ⟨rfl,rfl,rfl⟩)
def parse_parser_must.f (a0_0:(List S41)) (a0_1:Int) (a0_2:Int) (a1:ByteArray):Option (Int × Int):=(parse_parser_take.f a0_0 a0_1 a0_2 a1).bind fun (y6:(Bool × Int))=>(if (!y6.1)=true then (parse_parser_wrong.f a0_0 y6.2 a0_2 2).bind fun (y12:Int)=>some (y6.2,y12) else some (y6.2,a0_2))
def parse_parser_must.post (G:Gd) (b1:Nat) (A2:Option Addr) (c3:Nat) (a0_0:(List S41)) (a0_1:Int) (a0_2:Int) (a1:ByteArray) (r:(Int × Int)) (v:Value) (G':Gd) (Lr:List Ch):Prop:=G=G'∧v=.tuple #[]∧Lr=[Blk b1 [.slice A2 a0_0.length c3,VI r.1,VI r.2] 67]
theorem parse_parser_must.calls {G:Gd} {r:(Int × Int)} {a0_0:(List S41)} {a0_1:Int} {a0_2:Int} {a1:ByteArray} {b1:Nat} {A2:Option Addr} {c3:Nat} (hr4:Rd G k41 A2 a0_0) (hl5:a0_0.length ≤ c3) (h:parse_parser_must.f a0_0 a0_1 a0_2 a1=some r):Fn Try.prog 43 G [Blk b1 [.slice A2 a0_0.length c3,VI a0_1,VI a0_2] 67] [VP b1 0,.string a1] (parse_parser_must.post G b1 A2 c3 a0_0 a0_1 a0_2 a1 r):=by
 refine Fn.intro (e:=[(0,VP b1 0),(1,.string a1)]) 10 Try.func43 rfl Try.ntmps43 rfl rfl (Nat.le_of_ble_eq_true rfl) (fun L=>?_)
 unfold parse_parser_must.f at h
 refine TC.seq ?_
 refine TC.region ?_
 refine TV rfl rfl rfl (Val.move rfl) ?_
 refine TV rfl rfl rfl (Val.move rfl) ?_
 obtain ⟨y6,hy7,h⟩:=bind_no h
 refine TL.cons (TL.callV (Lin:=[Blk b1 [.slice A2 a0_0.length c3,VI a0_1,VI a0_2] 67]) (args:=[VP b1 0,.string a1]) rfl rfl rfl hbd62 rfl rfl (parse_parser_take.calls (a0_0:=a0_0) (a0_1:=a0_1) (a0_2:=a0_2) (a1:=a1) hr4 hl5 hy7) rfl ?_)
 rintro _ _ _ _ ⟨rfl,rfl,rfl⟩
 refine TV rfl rfl rfl (Val.not_ rfl) ?_
 refine TL.nil ?_
 refine TQ.then_ ?_
 refine TC.cond_b rfl h (fun hc11 h=>?_) (fun hc11 h=>?_)
 ·
  refine TC.region ?_
  refine TV rfl rfl rfl (Val.move rfl) ?_
  obtain ⟨y12,hy13,h⟩:=bind_no h
  refine TL.cons (TL.callV (Lin:=[Blk b1 [.slice A2 a0_0.length c3,VI y6.2,VI a0_2] 67]) (args:=[VP b1 0,VI 2]) rfl rfl rfl hbd63 rfl rfl (parse_parser_wrong.calls (a0_0:=a0_0) (a0_1:=y6.2) (a0_2:=a0_2) (a1:=2) hr4 hl5 hy13) rfl ?_)
  rintro _ _ _ _ ⟨rfl,rfl,rfl⟩
  refine TL.nil ?_
  obtain rfl:=Option.some.inj h
  exact TQ.fin (.inr rfl) rfl Try.results43 .nil rfl (FRel.mk (Ls:=[Blk b1 [.slice A2 a0_0.length c3,VI y6.2,VI y12] 67]) [0] 1 (Gd.le.refl _) rfl rfl rfl ⟨rfl,rfl,rfl⟩)
 ·
  refine TC.skip ?_
  obtain rfl:=Option.some.inj h
  exact TQ.fin (.inr rfl) rfl Try.results43 .nil rfl (FRel.mk (Ls:=[Blk b1 [.slice A2 a0_0.length c3,VI y6.2,VI a0_2] 67]) [0] 1 (Gd.le.refl _) rfl rfl rfl ⟨rfl,rfl,rfl⟩)
def parse_parser_free.f (a0_0:(List S41)) (a0_1:Int) (a0_2:Int) (a1:Int):Option Bool:=(parse_parser_token.f a0_0 a0_1 a0_2).bind fun (y6:S41)=>(if y6.f0=a1 then (if (!decide (a1=1))=true then some true else (parse_Word.f y6.f1).bind fun (y22:Bool)=>some (!y22)) else some false)
def parse_parser_free.post (G:Gd) (b1:Nat) (A2:Option Addr) (c3:Nat) (a0_0:(List S41)) (a0_1:Int) (a0_2:Int) (a1:Int) (r:Bool) (v:Value) (G':Gd) (Lr:List Ch):Prop:=G=G'∧v=.bool r∧Lr=[Blk b1 [.slice A2 a0_0.length c3,VI a0_1,VI a0_2] 67]
theorem parse_parser_free.calls {G:Gd} {r:Bool} {a0_0:(List S41)} {a0_1:Int} {a0_2:Int} {a1:Int} {b1:Nat} {A2:Option Addr} {c3:Nat} (hr4:Rd G k41 A2 a0_0) (hl5:a0_0.length ≤ c3) (h:parse_parser_free.f a0_0 a0_1 a0_2 a1=some r):Fn Try.prog 64 G [Blk b1 [.slice A2 a0_0.length c3,VI a0_1,VI a0_2] 67] [VP b1 0,VI a1] (parse_parser_free.post G b1 A2 c3 a0_0 a0_1 a0_2 a1 r):=by
 refine Fn.intro (e:=[(0,VP b1 0),(1,VI a1)]) 22 Try.func64 rfl Try.ntmps64 rfl rfl (Nat.le_of_ble_eq_true rfl) (fun L=>?_)
 unfold parse_parser_free.f at h
 refine TC.seq ?_
 refine TC.region ?_
 refine TV rfl rfl rfl (Val.assign rfl) ?_
 refine TL.nil ?_
 refine TQ.then_ ?_
 refine TC.seq ?_
 refine TC.region ?_
 refine TV rfl rfl rfl (Val.move rfl) ?_
 obtain ⟨y6,hy7,h⟩:=bind_no h
 refine TL.cons (TL.callV (Lin:=[Blk b1 [.slice A2 a0_0.length c3,VI a0_1,VI a0_2] 67]) (args:=[VP b1 0]) rfl rfl rfl hbd65 rfl rfl (parse_parser_token.calls (a0_0:=a0_0) (a0_1:=a0_1) (a0_2:=a0_2) hr4 hl5 hy7) rfl ?_)
 rintro _ _ _ _ ⟨rfl,rfl,rfl⟩
 refine TL.cons (TL.alloc (cs:=[VI 0,.string (⟨#[]⟩:ByteArray),VI 0]) rfl rfl zr41 rfl (fun b8=>?_))
 refine TL.cons (TL.store 0 (ds:=[VI y6.f0,.string y6.f1,VI y6.f2]) (cs':=[VI y6.f0,.string y6.f1,VI y6.f2]) (L':=(Blk b8 [VI y6.f0,.string y6.f1,VI y6.f2] 41::Blk b1 [.slice A2 a0_0.length c3,VI a0_1,VI a0_2] 67::L)) rfl fsz41 rfl rfl rfl rfl rfl (Nat.le_of_ble_eq_true rfl) rfl rfl ?_)
 refine TL.nil ?_
 refine TQ.then_ ?_
 refine TC.seq ?_
 refine TC.region ?_
 refine TV rfl rfl rfl (Val.fieldAddrB Try.underlying41 rfl fsz3 rfl rfl rfl) ?_
 refine TV rfl rfl rfl (Val.loadB 0 agg3 rfl rfl rfl) ?_
 refine TV rfl rfl rfl (Val.move rfl) ?_
 refine TV rfl rfl rfl (Val.cmp rfl rfl run_eql) ?_
 refine TV rfl rfl rfl (Val.move rfl) ?_
 refine TK.split (p:=y6.f0=a1) h (fun hg17 h=>?_) (fun hg17 h=>?_)
 ·
  have hk18:decide (y6.f0=a1)=true:=decide_eq_true hg17
  refine TV (Wt.yes rfl rfl rfl hk18) rfl rfl (Val.move rfl) ?_
  refine TV (Wt.yes rfl rfl rfl hk18) rfl rfl (Val.cmp rfl rfl run_neq) ?_
  refine TV (Wt.yes rfl rfl rfl hk18) rfl rfl (Val.move rfl) ?_
  refine TK.split (p:=(!decide (a1=1))=true) h (fun hg19 h=>?_) (fun hg19 h=>?_)
  ·
   have hk20:(!decide (a1=1))=true:=hg19
   refine TL.cons (TL.not (Wt.no rfl rfl rfl hk20) rfl ?_)
   refine TL.cons (TL.not (Wt.no rfl rfl rfl hk20) rfl ?_)
   refine TL.cons (TL.not (Wt.no rfl rfl rfl hk20) rfl ?_)
   refine TL.cons (TL.not (Wt.no rfl rfl rfl hk20) rfl ?_)
   refine TV (Wt.yes rfl rfl rfl hk18) rfl rfl (Val.pickY rfl hk20 rfl) ?_
   refine TV rfl rfl rfl (Val.pickY rfl hk18 rfl) ?_
   refine TV rfl rfl rfl (Val.assign rfl) ?_
   refine TL.nil ?_
   refine TQ.then_ ?_
   refine TC.ret ?_
   obtain rfl:=Option.some.inj h
   exact TQ.fin (.inl rfl) rfl Try.results64 (.tmp rfl .nil) rfl (FRel.mk (Ls:=[Blk b1 [.slice A2 a0_0.length c3,VI a0_1,VI a0_2] 67]) [1] 2 (Gd.le.refl _) rfl rfl rfl ⟨rfl,rfl,rfl⟩)
  ·
   have hk21:(!decide (a1=1))=false:=(by simpa using hg19)
   refine TV (Wt.yes rfl rfl rfl hk21) rfl rfl (Val.fieldAddrB Try.underlying41 rfl fsz9 rfl rfl rfl) ?_
   refine TV (Wt.yes rfl rfl rfl hk21) rfl rfl (Val.loadB 0 agg9 rfl rfl rfl) ?_
   obtain ⟨y22,hy23,h⟩:=bind_no h
   refine TL.cons (TL.callV (Lin:=[]) (args:=[.string y6.f1]) (Wt.yes rfl rfl rfl hk21) rfl rfl hbd15 rfl rfl (parse_Word.calls (a0:=y6.f1) hy23) rfl ?_)
   rintro _ _ _ _ ⟨rfl,rfl,rfl⟩
   refine TV (Wt.yes rfl rfl rfl hk21) rfl rfl (Val.not_ rfl) ?_
   refine TV (Wt.yes rfl rfl rfl hk18) rfl rfl (Val.pickN rfl hk21 rfl) ?_
   refine TV rfl rfl rfl (Val.pickY rfl hk18 rfl) ?_
   refine TV rfl rfl rfl (Val.assign rfl) ?_
   refine TL.nil ?_
   refine TQ.then_ ?_
   refine TC.ret ?_
   obtain rfl:=Option.some.inj h
   exact TQ.fin (.inl rfl) rfl Try.results64 (.tmp rfl .nil) rfl (FRel.mk (Ls:=[Blk b1 [.slice A2 a0_0.length c3,VI a0_1,VI a0_2] 67]) [1] 2 (Gd.le.refl _) rfl rfl rfl ⟨rfl,rfl,rfl⟩)
 ·
  have hk24:decide (y6.f0=a1)=false:=decide_eq_false hg17
  refine TL.cons (TL.not (Wt.no rfl rfl rfl hk24) rfl ?_)
  refine TL.cons (TL.not (Wt.no rfl rfl rfl hk24) rfl ?_)
  refine TL.cons (TL.not (Wt.no rfl rfl rfl hk24) rfl ?_)
  refine TL.cons (TL.not rfl rfl ?_)
  refine TL.cons (TL.not rfl rfl ?_)
  refine TL.cons (TL.not rfl rfl ?_)
  refine TL.cons (TL.not rfl rfl ?_)
  refine TL.cons (TL.not (Wt.no rfl rfl rfl hk24) rfl ?_)
  refine TV rfl rfl rfl (Val.pickN rfl hk24 rfl) ?_
  refine TV rfl rfl rfl (Val.assign rfl) ?_
  refine TL.nil ?_
  refine TQ.then_ ?_
  refine TC.ret ?_
  obtain rfl:=Option.some.inj h
  exact TQ.fin (.inl rfl) rfl Try.results64 (.tmp rfl .nil) rfl (FRel.mk (Ls:=[Blk b1 [.slice A2 a0_0.length c3,VI a0_1,VI a0_2] 67]) [1] 2 (Gd.le.refl _) rfl rfl rfl ⟨rfl,rfl,rfl⟩)
def parse_parser_text.f (a0_0:(List S41)) (a0_1:Int) (a0_2:Int) (a1:Int):Option (ByteArray × Int × Int):=(parse_parser_free.f a0_0 a0_1 a0_2 a1).bind fun (y6:Bool)=>(if (!y6)=true then (parse_parser_wrong.f a0_0 a0_1 a0_2 2).bind fun (y12:Int)=>some ((⟨#[]⟩:ByteArray),a0_1,y12) else (at? a0_0 (IntKind.i64.wrap ((IntKind.i64.wrap (a0_1 + 1)) - 1))).bind fun y23=>some (y23.f1,IntKind.i64.wrap (a0_1 + 1),a0_2))
def parse_parser_text.post (G:Gd) (b1:Nat) (A2:Option Addr) (c3:Nat) (a0_0:(List S41)) (a0_1:Int) (a0_2:Int) (a1:Int) (r:(ByteArray × Int × Int)) (v:Value) (G':Gd) (Lr:List Ch):Prop:=G=G'∧v=.string r.1∧Lr=[Blk b1 [.slice A2 a0_0.length c3,VI r.2.1,VI r.2.2] 67]
theorem parse_parser_text.calls {G:Gd} {r:(ByteArray × Int × Int)} {a0_0:(List S41)} {a0_1:Int} {a0_2:Int} {a1:Int} {b1:Nat} {A2:Option Addr} {c3:Nat} (hr4:Rd G k41 A2 a0_0) (hl5:a0_0.length ≤ c3) (h:parse_parser_text.f a0_0 a0_1 a0_2 a1=some r):Fn Try.prog 44 G [Blk b1 [.slice A2 a0_0.length c3,VI a0_1,VI a0_2] 67] [VP b1 0,VI a1] (parse_parser_text.post G b1 A2 c3 a0_0 a0_1 a0_2 a1 r):=by
 refine Fn.intro (e:=[(0,VP b1 0),(1,VI a1)]) 30 Try.func44 rfl Try.ntmps44 rfl rfl (Nat.le_of_ble_eq_true rfl) (fun L=>?_)
 unfold parse_parser_text.f at h
 refine TC.seq ?_
 refine TC.region ?_
 refine TV rfl rfl rfl (Val.assign rfl) ?_
 refine TL.nil ?_
 refine TQ.then_ ?_
 refine TC.seq ?_
 refine TC.seq ?_
 refine TC.region ?_
 refine TV rfl rfl rfl (Val.move rfl) ?_
 refine TV rfl rfl rfl (Val.move rfl) ?_
 obtain ⟨y6,hy7,h⟩:=bind_no h
 refine TL.cons (TL.callV (Lin:=[Blk b1 [.slice A2 a0_0.length c3,VI a0_1,VI a0_2] 67]) (args:=[VP b1 0,VI a1]) rfl rfl rfl hbd64 rfl rfl (parse_parser_free.calls (a0_0:=a0_0) (a0_1:=a0_1) (a0_2:=a0_2) (a1:=a1) hr4 hl5 hy7) rfl ?_)
 rintro _ _ _ _ ⟨rfl,rfl,rfl⟩
 refine TV rfl rfl rfl (Val.not_ rfl) ?_
 refine TL.nil ?_
 refine TQ.then_ ?_
 refine TC.cond_b rfl h (fun hc11 h=>?_) (fun hc11 h=>?_)
 ·
  refine TC.seq ?_
  refine TC.region ?_
  refine TV rfl rfl rfl (Val.move rfl) ?_
  obtain ⟨y12,hy13,h⟩:=bind_no h
  refine TL.cons (TL.callV (Lin:=[Blk b1 [.slice A2 a0_0.length c3,VI a0_1,VI a0_2] 67]) (args:=[VP b1 0,VI 2]) rfl rfl rfl hbd63 rfl rfl (parse_parser_wrong.calls (a0_0:=a0_0) (a0_1:=a0_1) (a0_2:=a0_2) (a1:=2) hr4 hl5 hy13) rfl ?_)
  rintro _ _ _ _ ⟨rfl,rfl,rfl⟩
  refine TL.nil ?_
  refine TQ.then_ ?_
  refine TC.seq ?_
  refine TC.region ?_
  refine TV rfl rfl rfl (Val.assign rfl) ?_
  refine TL.nil ?_
  refine TQ.then_ ?_
  refine TC.ret ?_
  refine TQ.thenR ?_
  obtain rfl:=Option.some.inj h
  exact TQ.fin (.inl rfl) rfl Try.results44 (.tmp rfl .nil) rfl (FRel.mk (Ls:=[Blk b1 [.slice A2 a0_0.length c3,VI a0_1,VI y12] 67]) [0] 1 (Gd.le.refl _) rfl rfl rfl ⟨rfl,rfl,rfl⟩)
 ·
  refine TC.skip ?_
  refine TQ.then_ ?_
  refine TC.seq ?_
  refine TC.region ?_
  refine TV rfl rfl rfl (Val.move rfl) ?_
  refine TV rfl rfl rfl (Val.nilCheck rfl) ?_
  refine TV rfl rfl rfl (Val.fieldAddrB Try.underlying67 rfl fsz3 rfl rfl rfl) ?_
  refine TV rfl rfl rfl (Val.loadB 0 agg3 rfl rfl rfl) ?_
  refine TV rfl rfl rfl (Val.cmp rfl rfl run_add) ?_
  refine TV rfl rfl rfl (Val.nilCheck rfl) ?_
  refine TV rfl rfl rfl (Val.fieldAddrB Try.underlying67 rfl fsz3 rfl rfl rfl) ?_
  refine TL.cons (TL.store 0 (ds:=[VI (IntKind.i64.wrap (a0_1 + 1))]) (cs':=[.slice A2 a0_0.length c3,VI (IntKind.i64.wrap (a0_1 + 1)),VI a0_2]) (L':=(Blk b1 [.slice A2 a0_0.length c3,VI (IntKind.i64.wrap (a0_1 + 1)),VI a0_2] 67::L)) rfl fsz3 rfl rfl rfl rfl rfl (Nat.le_of_ble_eq_true rfl) rfl rfl ?_)
  refine TL.nil ?_
  refine TQ.then_ ?_
  refine TC.seq ?_
  refine TC.regionAny [] [0,1,2,3,4,5,6,7,8,9,10,11,12] mixed (by kernel_rfl) ?_
  refine TA.take 0 rfl (by kernel_rfl) rfl (PQ.then_ PQ.body) rfl (Val.move rfl) (fun W hO=>hO) ?_
  refine TA.take 1 rfl (by kernel_rfl) rfl (PQ.then_ PQ.body) rfl (Val.nilCheck rfl) (fun W hO=>hO) ?_
  refine TA.take 2 rfl (by kernel_rfl) rfl (PQ.then_ PQ.body) rfl (Val.fieldAddrB Try.underlying67 rfl fsz32 rfl rfl rfl) (fun W hO=>hO) ?_
  refine TA.take 3 rfl (by kernel_rfl) rfl (PQ.then_ PQ.body) rfl (Val.loadB 0 agg32 rfl rfl rfl) (fun W hO=>hO) ?_
  refine TA.take 4 rfl (by kernel_rfl) rfl (PQ.then_ PQ.body) rfl (Val.move rfl) (fun W hO=>hO) ?_
  refine TA.take 5 rfl (by kernel_rfl) rfl (PQ.then_ PQ.body) rfl (Val.nilCheck rfl) (fun W hO=>hO) ?_
  refine TA.take 6 rfl (by kernel_rfl) rfl (PQ.then_ PQ.body) rfl (Val.fieldAddrB Try.underlying67 rfl fsz3 rfl rfl rfl) (fun W hO=>hO) ?_
  refine TA.take 7 rfl (by kernel_rfl) rfl (PQ.then_ PQ.body) rfl (Val.loadB 0 agg3 rfl rfl rfl) (fun W hO=>hO) ?_
  refine TA.take 8 rfl (by kernel_rfl) rfl (PQ.then_ PQ.body) rfl (Val.cmp rfl rfl run_sub) (fun W hO=>hO) ?_
  obtain ⟨y23,hx24,h⟩:=bind_no h
  obtain ⟨ad25,cs31,hA26,hi27,hj28,hcl29,hK30⟩:=Rd.at hr4 hx24
  obtain rfl:=k41_openR hK30
  refine TA.take 9 rfl (by kernel_rfl) rfl (PQ.then_ PQ.body) rfl (Val.indexAddr Try.underlying32 fsz41 rfl hA26 rfl hi27 hj28) (fun W hO=>hO) ?_
  refine TA.take 10 rfl (by kernel_rfl) rfl (PQ.then_ PQ.body) rfl (Val.fieldAddrE Try.underlying41 rfl fsz9 rfl rfl) (fun W hO=>hO) ?_
  refine TA.take 11 rfl (by kernel_rfl) rfl (PQ.then_ PQ.body) rfl (Val.loadS agg9 rfl (hcl29 1 _ rfl)) (fun W hO=>hO) ?_
  refine TA.take 12 rfl (by kernel_rfl) rfl (PQ.then_ PQ.body) rfl (Val.assign rfl) (fun W hO=>hO) ?_
  refine TA.done (by kernel_rfl) ?_
  refine TQ.then_ ?_
  refine TC.ret ?_
  obtain rfl:=Option.some.inj h
  exact TQ.fin (.inl rfl) rfl Try.results44 (.tmp rfl .nil) rfl (FRel.mk (Ls:=[Blk b1 [.slice A2 a0_0.length c3,VI (IntKind.i64.wrap (a0_1 + 1)),VI a0_2] 67]) [0] 1 (Gd.le.refl _) rfl rfl rfl ⟨rfl,rfl,rfl⟩)
def parse_parser_start.f (a0_0:(List S41)) (a0_1:Int) (a0_2:Int):Option Int:=(if a0_1 < (a0_0.length:Int) then (at? a0_0 a0_1).bind fun y149=>some y149.f2 else (if 0 < (a0_0.length:Int) then (at? a0_0 (IntKind.i64.wrap ((a0_0.length:Int) - 1))).bind fun y187=>some (IntKind.i64.wrap (y187.f2 + (y187.f1.size:Int))) else some 0))
def parse_parser_start.post (G:Gd) (b1:Nat) (A2:Option Addr) (c3:Nat) (a0_0:(List S41)) (a0_1:Int) (a0_2:Int) (r:Int) (v:Value) (G':Gd) (Lr:List Ch):Prop:=G=G'∧v=VI r∧Lr=[Blk b1 [.slice A2 a0_0.length c3,VI a0_1,VI a0_2] 67]
theorem parse_parser_start.calls {G:Gd} {r:Int} {a0_0:(List S41)} {a0_1:Int} {a0_2:Int} {b1:Nat} {A2:Option Addr} {c3:Nat} (hr4:Rd G k41 A2 a0_0) (hl5:a0_0.length ≤ c3) (h:parse_parser_start.f a0_0 a0_1 a0_2=some r):Fn Try.prog 29 G [Blk b1 [.slice A2 a0_0.length c3,VI a0_1,VI a0_2] 67] [VP b1 0] (parse_parser_start.post G b1 A2 c3 a0_0 a0_1 a0_2 r):=by
 refine Fn.intro (e:=[(0,VP b1 0)]) 50 Try.func29 rfl Try.ntmps29 rfl rfl (Nat.le_of_ble_eq_true rfl) (fun L=>?_)
 unfold parse_parser_start.f at h
 refine TC.seq ?_
 refine TC.region ?_
 refine TV rfl rfl rfl (Val.assign rfl) ?_
 refine TL.nil ?_
 refine TQ.then_ ?_
 refine TC.seq ?_
 refine TC.seq ?_
 refine TC.region ?_
 refine TV rfl rfl rfl (Val.move rfl) ?_
 refine TV rfl rfl rfl (Val.nilCheck rfl) ?_
 refine TV rfl rfl rfl (Val.fieldAddrB Try.underlying67 rfl fsz32 rfl rfl rfl) ?_
 refine TV rfl rfl rfl (Val.loadB 0 agg32 rfl rfl rfl) ?_
 refine TV rfl rfl rfl (Val.len Try.underlying32 rfl) ?_
 refine TV rfl rfl rfl (Val.assign rfl) ?_
 refine TL.nil ?_
 refine TQ.then_ ?_
 refine TC.block ?_
 refine TC.seq ?_
 refine TC.region ?_
 refine TV rfl rfl rfl (Val.move rfl) ?_
 refine TV rfl rfl rfl (Val.nilCheck rfl) ?_
 refine TV rfl rfl rfl (Val.fieldAddrB Try.underlying67 rfl fsz3 rfl rfl rfl) ?_
 refine TV rfl rfl rfl (Val.loadB 0 agg3 rfl rfl rfl) ?_
 refine TV rfl rfl rfl (Val.move rfl) ?_
 refine TV rfl rfl rfl (Val.cmp rfl rfl run_lss) ?_
 refine TV rfl rfl rfl (Val.assign rfl) ?_
 refine TL.nil ?_
 refine TQ.then_ ?_
 refine TC.cond_p rfl h (fun hc139 h=>?_) (fun hc139 h=>?_)
 ·
  refine TC.seq ?_
  refine TC.regionAny [] [0,1,2,3,4,5,6,7,8,9,10,11] mixed (by kernel_rfl) ?_
  refine TA.take 0 rfl (by kernel_rfl) rfl (PQ.then_ (PQ.inB (PQ.then_ PQ.body))) rfl (Val.move rfl) (fun W hO=>hO) ?_
  refine TA.take 1 rfl (by kernel_rfl) rfl (PQ.then_ (PQ.inB (PQ.then_ PQ.body))) rfl (Val.nilCheck rfl) (fun W hO=>hO) ?_
  refine TA.take 2 rfl (by kernel_rfl) rfl (PQ.then_ (PQ.inB (PQ.then_ PQ.body))) rfl (Val.fieldAddrB Try.underlying67 rfl fsz32 rfl rfl rfl) (fun W hO=>hO) ?_
  refine TA.take 3 rfl (by kernel_rfl) rfl (PQ.then_ (PQ.inB (PQ.then_ PQ.body))) rfl (Val.loadB 0 agg32 rfl rfl rfl) (fun W hO=>hO) ?_
  refine TA.take 4 rfl (by kernel_rfl) rfl (PQ.then_ (PQ.inB (PQ.then_ PQ.body))) rfl (Val.move rfl) (fun W hO=>hO) ?_
  refine TA.take 5 rfl (by kernel_rfl) rfl (PQ.then_ (PQ.inB (PQ.then_ PQ.body))) rfl (Val.nilCheck rfl) (fun W hO=>hO) ?_
  refine TA.take 6 rfl (by kernel_rfl) rfl (PQ.then_ (PQ.inB (PQ.then_ PQ.body))) rfl (Val.fieldAddrB Try.underlying67 rfl fsz3 rfl rfl rfl) (fun W hO=>hO) ?_
  refine TA.take 7 rfl (by kernel_rfl) rfl (PQ.then_ (PQ.inB (PQ.then_ PQ.body))) rfl (Val.loadB 0 agg3 rfl rfl rfl) (fun W hO=>hO) ?_
  obtain ⟨y149,hx150,h⟩:=bind_no h
  obtain ⟨ad151,cs157,hA152,hi153,hj154,hcl155,hK156⟩:=Rd.at hr4 hx150
  obtain rfl:=k41_openR hK156
  refine TA.take 8 rfl (by kernel_rfl) rfl (PQ.then_ (PQ.inB (PQ.then_ PQ.body))) rfl (Val.indexAddr Try.underlying32 fsz41 rfl hA152 rfl hi153 hj154) (fun W hO=>hO) ?_
  refine TA.take 9 rfl (by kernel_rfl) rfl (PQ.then_ (PQ.inB (PQ.then_ PQ.body))) rfl (Val.fieldAddrE Try.underlying41 rfl fsz3 rfl rfl) (fun W hO=>hO) ?_
  refine TA.take 10 rfl (by kernel_rfl) rfl (PQ.then_ (PQ.inB (PQ.then_ PQ.body))) rfl (Val.loadS agg3 rfl (hcl155 2 _ rfl)) (fun W hO=>hO) ?_
  refine TA.take 11 rfl (by kernel_rfl) rfl (PQ.then_ (PQ.inB (PQ.then_ PQ.body))) rfl (Val.assign rfl) (fun W hO=>hO) ?_
  refine TA.done (by kernel_rfl) ?_
  refine TQ.then_ ?_
  refine TC.ret ?_
  refine TQ.inBR ?_
  refine TQ.thenR ?_
  obtain rfl:=Option.some.inj h
  exact TQ.fin (.inl rfl) rfl Try.results29 (.tmp rfl .nil) rfl (FRel.mk (Ls:=[Blk b1 [.slice A2 a0_0.length c3,VI a0_1,VI a0_2] 67]) [0] 1 (Gd.le.refl _) rfl rfl rfl ⟨rfl,rfl,rfl⟩)
 ·
  refine TC.seq ?_
  refine TC.region ?_
  refine TV rfl rfl rfl (Val.move rfl) ?_
  refine TV rfl rfl rfl (Val.cmp rfl rfl run_gtr) ?_
  refine TV rfl rfl rfl (Val.assign rfl) ?_
  refine TL.nil ?_
  refine TQ.then_ ?_
  refine TC.cond_p rfl h (fun hc177 h=>?_) (fun hc177 h=>?_)
  ·
   refine TC.seq ?_
   refine TC.regionAny [] [0,1,2,3,4,5,6,7,8,9,10,11,12,13,14,15,16,17,18,19,20] mixed (by kernel_rfl) ?_
   refine TA.take 0 rfl (by kernel_rfl) rfl (PQ.then_ (PQ.inB (PQ.then_ PQ.body))) rfl (Val.move rfl) (fun W hO=>hO) ?_
   refine TA.take 1 rfl (by kernel_rfl) rfl (PQ.then_ (PQ.inB (PQ.then_ PQ.body))) rfl (Val.nilCheck rfl) (fun W hO=>hO) ?_
   refine TA.take 2 rfl (by kernel_rfl) rfl (PQ.then_ (PQ.inB (PQ.then_ PQ.body))) rfl (Val.fieldAddrB Try.underlying67 rfl fsz32 rfl rfl rfl) (fun W hO=>hO) ?_
   refine TA.take 3 rfl (by kernel_rfl) rfl (PQ.then_ (PQ.inB (PQ.then_ PQ.body))) rfl (Val.loadB 0 agg32 rfl rfl rfl) (fun W hO=>hO) ?_
   refine TA.take 4 rfl (by kernel_rfl) rfl (PQ.then_ (PQ.inB (PQ.then_ PQ.body))) rfl (Val.move rfl) (fun W hO=>hO) ?_
   refine TA.take 5 rfl (by kernel_rfl) rfl (PQ.then_ (PQ.inB (PQ.then_ PQ.body))) rfl (Val.cmp rfl rfl run_sub) (fun W hO=>hO) ?_
   obtain ⟨y187,hx188,h⟩:=bind_no h
   obtain ⟨ad189,cs195,hA190,hi191,hj192,hcl193,hK194⟩:=Rd.at hr4 hx188
   obtain rfl:=k41_openR hK194
   refine TA.take 6 rfl (by kernel_rfl) rfl (PQ.then_ (PQ.inB (PQ.then_ PQ.body))) rfl (Val.indexAddr Try.underlying32 fsz41 rfl hA190 rfl hi191 hj192) (fun W hO=>hO) ?_
   refine TA.take 7 rfl (by kernel_rfl) rfl (PQ.then_ (PQ.inB (PQ.then_ PQ.body))) rfl (Val.fieldAddrE Try.underlying41 rfl fsz3 rfl rfl) (fun W hO=>hO) ?_
   refine TA.take 8 rfl (by kernel_rfl) rfl (PQ.then_ (PQ.inB (PQ.then_ PQ.body))) rfl (Val.loadS agg3 rfl (hcl193 2 _ rfl)) (fun W hO=>hO) ?_
   refine TA.take 9 rfl (by kernel_rfl) rfl (PQ.then_ (PQ.inB (PQ.then_ PQ.body))) rfl (Val.move rfl) (fun W hO=>hO) ?_
   refine TA.take 10 rfl (by kernel_rfl) rfl (PQ.then_ (PQ.inB (PQ.then_ PQ.body))) rfl (Val.nilCheck rfl) (fun W hO=>hO) ?_
   refine TA.take 11 rfl (by kernel_rfl) rfl (PQ.then_ (PQ.inB (PQ.then_ PQ.body))) rfl (Val.fieldAddrB Try.underlying67 rfl fsz32 rfl rfl rfl) (fun W hO=>hO) ?_
   refine TA.take 12 rfl (by kernel_rfl) rfl (PQ.then_ (PQ.inB (PQ.then_ PQ.body))) rfl (Val.loadB 0 agg32 rfl rfl rfl) (fun W hO=>hO) ?_
   refine TA.take 13 rfl (by kernel_rfl) rfl (PQ.then_ (PQ.inB (PQ.then_ PQ.body))) rfl (Val.move rfl) (fun W hO=>hO) ?_
   refine TA.take 14 rfl (by kernel_rfl) rfl (PQ.then_ (PQ.inB (PQ.then_ PQ.body))) rfl (Val.cmp rfl rfl run_sub) (fun W hO=>hO) ?_
   refine TA.take 15 rfl (by kernel_rfl) rfl (PQ.then_ (PQ.inB (PQ.then_ PQ.body))) rfl (Val.indexAddr Try.underlying32 fsz41 rfl hA190 rfl hi191 hj192) (fun W hO=>hO) ?_
   refine TA.take 16 rfl (by kernel_rfl) rfl (PQ.then_ (PQ.inB (PQ.then_ PQ.body))) rfl (Val.fieldAddrE Try.underlying41 rfl fsz9 rfl rfl) (fun W hO=>hO) ?_
   refine TA.take 17 rfl (by kernel_rfl) rfl (PQ.then_ (PQ.inB (PQ.then_ PQ.body))) rfl (Val.loadS agg9 rfl (hcl193 1 _ rfl)) (fun W hO=>hO) ?_
   refine TA.take 18 rfl (by kernel_rfl) rfl (PQ.then_ (PQ.inB (PQ.then_ PQ.body))) rfl (Val.lenS Try.underlying9 rfl) (fun W hO=>hO) ?_
   refine TA.take 19 rfl (by kernel_rfl) rfl (PQ.then_ (PQ.inB (PQ.then_ PQ.body))) rfl (Val.cmp rfl rfl run_add) (fun W hO=>hO) ?_
   refine TA.take 20 rfl (by kernel_rfl) rfl (PQ.then_ (PQ.inB (PQ.then_ PQ.body))) rfl (Val.assign rfl) (fun W hO=>hO) ?_
   refine TA.done (by kernel_rfl) ?_
   refine TQ.then_ ?_
   refine TC.ret ?_
   refine TQ.inBR ?_
   refine TQ.thenR ?_
   obtain rfl:=Option.some.inj h
   exact TQ.fin (.inl rfl) rfl Try.results29 (.tmp rfl .nil) rfl (FRel.mk (Ls:=[Blk b1 [.slice A2 a0_0.length c3,VI a0_1,VI a0_2] 67]) [0] 1 (Gd.le.refl _) rfl rfl rfl ⟨rfl,rfl,rfl⟩)
  ·
   refine TC.skip ?_
   refine TQ.inB ?_
   refine TQ.then_ ?_
   refine TC.seq ?_
   refine TC.region ?_
   refine TV rfl rfl rfl (Val.assign rfl) ?_
   refine TL.nil ?_
   refine TQ.then_ ?_
   refine TC.ret ?_
   obtain rfl:=Option.some.inj h
   exact TQ.fin (.inl rfl) rfl Try.results29 (.tmp rfl .nil) rfl (FRel.mk (Ls:=[Blk b1 [.slice A2 a0_0.length c3,VI a0_1,VI a0_2] 67]) [0] 1 (Gd.le.refl _) rfl rfl rfl ⟨rfl,rfl,rfl⟩)
end Go.Proofs.Ythlhmoocgjddpaa.Sy
