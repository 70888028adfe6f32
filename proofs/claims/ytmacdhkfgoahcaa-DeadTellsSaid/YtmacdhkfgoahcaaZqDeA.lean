/- Of the text DeA, what this law uses. -/
import Derived.WalkSpells
import Derived.RegionCalls
import Derived.BigCall
import Derived.Test.YtmacdhkfgoahcaaZqFoW
import Derived.Test.YtmacdhkfgoahcaaZqQx6
/- Contract, walked by hand: one step backwards (deadstore's next.step). For every state, every operation. -/
set_option linter.unusedVariables false
set_option linter.unusedSimpArgs false
namespace Go.Proofs.Ytmacdhkfgoahcaa.De
open Go Go.RowKit Go.Maps Go.Proofs.Ytmacdhkfgoahcaa.Q Go.Proofs.Ytmacdhkfgoahcaa.Fo Go.Proofs.YtmacdhkfgoahcaaW.PrintWords Go.Proofs.YtmacdhkfgoahcaaW.PrintLast Go.Proofs.YtmacdhkfgoahcaaW.PrintMore
abbrev Sn := Int → Bool
/-- The datum reads as this set. -/
def TellsS (D : DataW Unit) (s : Sn) : Prop := ∀ a, wf a → ∀ z, D.atKey (.int .i64 a) z = if s a = true then .lit (.bool true) else z
def MapS (w : World) (b cnt : Nat) (s : Sn) : Prop := ∃ D : DataW Unit, w.ownsMap Try.prog 3 (plainElem Try.prog 4) b cnt D ∧ TellsS D s
theorem zero4 (w : World) : (zeroValue 4).run Try.prog w = .ok (.bool false) w := by kernel_rfl
theorem MapS.made (w : World) : MapS (w.alloc (.map #[] 0)) w.heap.size 0 (fun _ => false) := ⟨_, World.ownsMap_made w Try.prog 3 _, fun a _ z => rfl⟩
theorem MapS.mono {w : World} {b cnt cnt' : Nat} {s : Sn} (h : MapS w b cnt s) (hc : cnt ≤ cnt') : MapS w b cnt' s := by
  obtain ⟨D, hD, hT⟩ := h
  exact ⟨D, hD.mono hc, hT⟩
theorem MapS.lt {w : World} {b cnt : Nat} {s : Sn} (h : MapS w b cnt s) : b < w.heap.size := by
  obtain ⟨D, hD, _⟩ := h
  exact hD.lt
theorem MapS.keep {w w' : World} {b cnt : Nat} {s : Sn} (h : MapS w b cnt s) (hb : w'.heap[b]? = w.heap[b]?) : MapS w' b cnt s := by
  obtain ⟨D, ⟨es, clock, h1, h2⟩, hT⟩ := h
  exact ⟨D, ⟨es, clock, hb.trans h1, h2⟩, hT⟩
theorem MapS.not_cells {w : World} {b cnt : Nat} {s : Sn} (h : MapS w b cnt s) {g : Nat} {cs : Array Value} {t : TypeId} (hg : w.heap[g]? = some (.cells cs t (0, 0))) : b ≠ g := by
  rintro rfl
  obtain ⟨D, ⟨es, clock, h1, h2⟩, hT⟩ := h
  rw [h1] at hg; cases hg
def add (s : Sn) (a : Int) : Sn := fun x => if x = a then true else s x
theorem TellsS.put {D : DataW Unit} {s : Sn} (h : TellsS D s) (hD : IsMap D) (a : Int) : TellsS (D.put (.int .i64 a) (.lit (.bool true))) (add s a) := fun x hx z => by
  unfold add
  by_cases e : x = a
  · subst e; rw [if_pos rfl, atKey_put_same hD (by trivial)]; rfl
  · rw [if_neg e, atKey_put_other (fun hh => e (by injection hh))]; exact h x hx z
theorem run_lookS {w : World} {b cnt : Nat} {s : Sn} (h : MapS w b cnt s) (a : Int) (ha : wf a) : (Instr.lookup 55 (.map (some b)) (.int .i64 a) false).run Try.prog w = .ok (.bool (s a)) w := by
  obtain ⟨D, hD, hT⟩ := h
  obtain ⟨v, ps, hrun, hR⟩ := hD.lookup law3 Try.underlying55 (zero4 w) (plainElem_bool Try.underlying4 false) (key3 ha)
  rw [hT a ha] at hR
  obtain ⟨c, rfl⟩ : ∃ c, v = .bool c := by
    cases v <;> simp [plainElem] at hR <;> exact ⟨_, rfl⟩
  rw [plainElem_bool Try.underlying4 c] at hR
  rw [hrun]
  cases e : s a with
  | true => rw [e, if_pos rfl] at hR; simp at hR; rw [hR.1]
  | false => rw [e, if_neg (by simp)] at hR; simp at hR; rw [hR.1]
theorem run_nilS (w : World) (a : Int) (ha : wf a) : (Instr.lookup 55 (.map none) (.int .i64 a) false).run Try.prog w = .ok (.bool false) w := Maps.look_nil false law3 Try.underlying55 (zero4 w) (key3 ha)
/-- The state 'next': at block g. -/
structure IsNext (w : World) (g cnt : Nat) (a imm : Int) (is : Bool) (mb : Option Nat) (s : Sn) : Prop where
  ex : ∃ k0 k1 k3 v5, w.heap[g]? = some (.cells #[.int .i64 k0, .int .i64 k1, .int .i64 a, .int .i64 k3, .int .i64 imm, v5, .bool is, .map mb] 57 (0, 0))
  no : mb = none → s = fun _ => false
  yes : ∀ b, mb = some b → MapS w b cnt s
theorem IsNext.look {w W : World} {g cnt : Nat} {a imm : Int} {is : Bool} {mb : Option Nat} {s : Sn} (h : IsNext w g cnt a imm is mb s) (hW : Below w.heap.size w W) (x : Int) (hx : wf x) : (Instr.lookup 55 (.map mb) (.int .i64 x) false).run Try.prog W = .ok (.bool (s x)) W := by
  cases mb with
  | none => rw [h.no rfl]; exact run_nilS W x hx
  | some b => exact run_lookS ((h.yes b rfl).keep (hW.block b (h.yes b rfl).lt)) x hx
/-- What a step leaves as it lay. -/
structure Frame (w w' : World) (g : Nat) (mb : Option Nat) : Prop where
  os : w'.os = w.os
  tape : w'.tape = w.tape
  output : w'.output = w.output
  size : w.heap.size ≤ w'.heap.size
  block : ∀ k, k < w.heap.size → k ≠ g → some k ≠ mb → w'.heap[k]? = w.heap[k]?
theorem cont_some (v : Int) : ∃ r, slices_Contains_int_int.f 11 ([4, 5, 9, 10] : List Int) v = some r := by
  unfold slices_Contains_int_int.f slices_Index_int_int.f
  have w1 : wrap64 1 = 1 := by decide +kernel
  have w2 : wrap64 2 = 2 := by decide +kernel
  have w3 : wrap64 3 = 3 := by decide +kernel
  have w4 : wrap64 4 = 4 := by decide +kernel
  simp [w4, slices_Index_int_int.l0, rd, w1, w2, w3]
  repeat' split
  all_goals simp
def pureB (x : S30) : Bool := (code_Pure.f 12 x.f0 x.f1 x.f2 x.f3 x.f4 x.f5).getD false
theorem pure_some (x : S30) : code_Pure.f 12 x.f0 x.f1 x.f2 x.f3 x.f4 x.f5 = some (pureB x) := by
  have h : ∃ r, code_Pure.f 12 x.f0 x.f1 x.f2 x.f3 x.f4 x.f5 = some r := by
    unfold code_Pure.f
    have hc := cont_some x.f4
    obtain ⟨r, hr⟩ := hc
    simp only [code_Pure.j0, hr, Option.bind_some]
    repeat' split
    all_goals exact ⟨_, rfl⟩
  obtain ⟨r, hr⟩ := h
  unfold pureB
  rw [hr]; rfl
def deadB (a imm : Int) (is : Bool) (s : Sn) (x : S30) : Bool := is && (a == x.f2) && (imm == x.f4) && !(s x.f2)
theorem store_end {w W : World} {g : Nat} (n : Nat) (mb : Option Nat) (k0 k1 a k3 imm : Int) (vo : Value) (is : Bool) (mb0 : Value) (hg : W.heap[g]? = some (.cells #[.int .i64 k0, .int .i64 k1, .int .i64 a, .int .i64 k3, .int .i64 imm, vo, .bool is, mb0] 57 (0, 0))) (HB : Below w.heap.size w W) (hz : W.heap.size = w.heap.size + 1)
    (x : S30) (v0 v1 v2 v3 v4 v5 v6 v7 : Value) (q0 : v0 = .int .i64 x.f0) (q1 : v1 = .int .i64 x.f1) (q2 : v2 = .int .i64 x.f2) (q3 : v3 = .int .i64 x.f3) (q4 : v4 = .int .i64 x.f4) (q6 : v6 = .bool true) (q7 : v7 = .map (some (w.heap.size + 1))) :
    IsNext (World.alloc (((((((((W.drewN n).setCell ⟨g, 0, none⟩ v0).setCell ⟨g, 1, none⟩ v1).setCell ⟨g, 2, none⟩ v2).setCell ⟨g, 3, none⟩ v3).setCell ⟨g, 4, none⟩ v4).setCell ⟨g, 5, none⟩ v5).setCell ⟨g, 6, none⟩ v6).setCell ⟨g, 7, none⟩ v7) (.map #[] 0)) g 0 x.f2 x.f4 true (some (w.heap.size + 1)) (fun _ => false) ∧ Frame w (World.alloc (((((((((W.drewN n).setCell ⟨g, 0, none⟩ v0).setCell ⟨g, 1, none⟩ v1).setCell ⟨g, 2, none⟩ v2).setCell ⟨g, 3, none⟩ v3).setCell ⟨g, 4, none⟩ v4).setCell ⟨g, 5, none⟩ v5).setCell ⟨g, 6, none⟩ v6).setCell ⟨g, 7, none⟩ v7) (.map #[] 0)) g mb := by
  have hs : ((((((((((W.drewN n).setCell ⟨g, 0, none⟩ v0).setCell ⟨g, 1, none⟩ v1).setCell ⟨g, 2, none⟩ v2).setCell ⟨g, 3, none⟩ v3).setCell ⟨g, 4, none⟩ v4).setCell ⟨g, 5, none⟩ v5).setCell ⟨g, 6, none⟩ v6).setCell ⟨g, 7, none⟩ v7)).heap.size = w.heap.size + 1 := by simp [hz]
  have g0 : ((W.drewN n).setCell ⟨g, 0, none⟩ v0).heap[g]? = some (.cells #[v0, (.int .i64 k1), (.int .i64 a), (.int .i64 k3), (.int .i64 imm), vo, (.bool is), mb0] 57 (0, 0)) := (blk_set (w := (W.drewN n)) hg 0 v0).trans rfl
  have g1 : (((W.drewN n).setCell ⟨g, 0, none⟩ v0).setCell ⟨g, 1, none⟩ v1).heap[g]? = some (.cells #[v0, v1, (.int .i64 a), (.int .i64 k3), (.int .i64 imm), vo, (.bool is), mb0] 57 (0, 0)) := (blk_set (w := ((W.drewN n).setCell ⟨g, 0, none⟩ v0)) g0 1 v1).trans rfl
  have g2 : ((((W.drewN n).setCell ⟨g, 0, none⟩ v0).setCell ⟨g, 1, none⟩ v1).setCell ⟨g, 2, none⟩ v2).heap[g]? = some (.cells #[v0, v1, v2, (.int .i64 k3), (.int .i64 imm), vo, (.bool is), mb0] 57 (0, 0)) := (blk_set (w := (((W.drewN n).setCell ⟨g, 0, none⟩ v0).setCell ⟨g, 1, none⟩ v1)) g1 2 v2).trans rfl
  have g3 : (((((W.drewN n).setCell ⟨g, 0, none⟩ v0).setCell ⟨g, 1, none⟩ v1).setCell ⟨g, 2, none⟩ v2).setCell ⟨g, 3, none⟩ v3).heap[g]? = some (.cells #[v0, v1, v2, v3, (.int .i64 imm), vo, (.bool is), mb0] 57 (0, 0)) := (blk_set (w := ((((W.drewN n).setCell ⟨g, 0, none⟩ v0).setCell ⟨g, 1, none⟩ v1).setCell ⟨g, 2, none⟩ v2)) g2 3 v3).trans rfl
  have g4 : ((((((W.drewN n).setCell ⟨g, 0, none⟩ v0).setCell ⟨g, 1, none⟩ v1).setCell ⟨g, 2, none⟩ v2).setCell ⟨g, 3, none⟩ v3).setCell ⟨g, 4, none⟩ v4).heap[g]? = some (.cells #[v0, v1, v2, v3, v4, vo, (.bool is), mb0] 57 (0, 0)) := (blk_set (w := (((((W.drewN n).setCell ⟨g, 0, none⟩ v0).setCell ⟨g, 1, none⟩ v1).setCell ⟨g, 2, none⟩ v2).setCell ⟨g, 3, none⟩ v3)) g3 4 v4).trans rfl
  have g5 : (((((((W.drewN n).setCell ⟨g, 0, none⟩ v0).setCell ⟨g, 1, none⟩ v1).setCell ⟨g, 2, none⟩ v2).setCell ⟨g, 3, none⟩ v3).setCell ⟨g, 4, none⟩ v4).setCell ⟨g, 5, none⟩ v5).heap[g]? = some (.cells #[v0, v1, v2, v3, v4, v5, (.bool is), mb0] 57 (0, 0)) := (blk_set (w := ((((((W.drewN n).setCell ⟨g, 0, none⟩ v0).setCell ⟨g, 1, none⟩ v1).setCell ⟨g, 2, none⟩ v2).setCell ⟨g, 3, none⟩ v3).setCell ⟨g, 4, none⟩ v4)) g4 5 v5).trans rfl
  have g6 : ((((((((W.drewN n).setCell ⟨g, 0, none⟩ v0).setCell ⟨g, 1, none⟩ v1).setCell ⟨g, 2, none⟩ v2).setCell ⟨g, 3, none⟩ v3).setCell ⟨g, 4, none⟩ v4).setCell ⟨g, 5, none⟩ v5).setCell ⟨g, 6, none⟩ v6).heap[g]? = some (.cells #[v0, v1, v2, v3, v4, v5, v6, mb0] 57 (0, 0)) := (blk_set (w := (((((((W.drewN n).setCell ⟨g, 0, none⟩ v0).setCell ⟨g, 1, none⟩ v1).setCell ⟨g, 2, none⟩ v2).setCell ⟨g, 3, none⟩ v3).setCell ⟨g, 4, none⟩ v4).setCell ⟨g, 5, none⟩ v5)) g5 6 v6).trans rfl
  have g7 : (((((((((W.drewN n).setCell ⟨g, 0, none⟩ v0).setCell ⟨g, 1, none⟩ v1).setCell ⟨g, 2, none⟩ v2).setCell ⟨g, 3, none⟩ v3).setCell ⟨g, 4, none⟩ v4).setCell ⟨g, 5, none⟩ v5).setCell ⟨g, 6, none⟩ v6).setCell ⟨g, 7, none⟩ v7).heap[g]? = some (.cells #[v0, v1, v2, v3, v4, v5, v6, v7] 57 (0, 0)) := (blk_set (w := ((((((((W.drewN n).setCell ⟨g, 0, none⟩ v0).setCell ⟨g, 1, none⟩ v1).setCell ⟨g, 2, none⟩ v2).setCell ⟨g, 3, none⟩ v3).setCell ⟨g, 4, none⟩ v4).setCell ⟨g, 5, none⟩ v5).setCell ⟨g, 6, none⟩ v6)) g6 7 v7).trans rfl
  have h8 := g7
  clear g0 g1 g2 g3 g4 g5 g6 g7
  have hk : ∀ k, k ≠ g → ((((((((((W.drewN n).setCell ⟨g, 0, none⟩ v0).setCell ⟨g, 1, none⟩ v1).setCell ⟨g, 2, none⟩ v2).setCell ⟨g, 3, none⟩ v3).setCell ⟨g, 4, none⟩ v4).setCell ⟨g, 5, none⟩ v5).setCell ⟨g, 6, none⟩ v6).setCell ⟨g, 7, none⟩ v7)).heap[k]? = W.heap[k]? := fun k hne => (Below.heap_setCell ((((((((W.drewN n).setCell ⟨g, 0, none⟩ v0).setCell ⟨g, 1, none⟩ v1).setCell ⟨g, 2, none⟩ v2).setCell ⟨g, 3, none⟩ v3).setCell ⟨g, 4, none⟩ v4).setCell ⟨g, 5, none⟩ v5).setCell ⟨g, 6, none⟩ v6) ⟨g, 7, none⟩ v7 k hne).trans ((Below.heap_setCell (((((((W.drewN n).setCell ⟨g, 0, none⟩ v0).setCell ⟨g, 1, none⟩ v1).setCell ⟨g, 2, none⟩ v2).setCell ⟨g, 3, none⟩ v3).setCell ⟨g, 4, none⟩ v4).setCell ⟨g, 5, none⟩ v5) ⟨g, 6, none⟩ v6 k hne).trans ((Below.heap_setCell ((((((W.drewN n).setCell ⟨g, 0, none⟩ v0).setCell ⟨g, 1, none⟩ v1).setCell ⟨g, 2, none⟩ v2).setCell ⟨g, 3, none⟩ v3).setCell ⟨g, 4, none⟩ v4) ⟨g, 5, none⟩ v5 k hne).trans ((Below.heap_setCell (((((W.drewN n).setCell ⟨g, 0, none⟩ v0).setCell ⟨g, 1, none⟩ v1).setCell ⟨g, 2, none⟩ v2).setCell ⟨g, 3, none⟩ v3) ⟨g, 4, none⟩ v4 k hne).trans ((Below.heap_setCell ((((W.drewN n).setCell ⟨g, 0, none⟩ v0).setCell ⟨g, 1, none⟩ v1).setCell ⟨g, 2, none⟩ v2) ⟨g, 3, none⟩ v3 k hne).trans ((Below.heap_setCell (((W.drewN n).setCell ⟨g, 0, none⟩ v0).setCell ⟨g, 1, none⟩ v1) ⟨g, 2, none⟩ v2 k hne).trans ((Below.heap_setCell ((W.drewN n).setCell ⟨g, 0, none⟩ v0) ⟨g, 1, none⟩ v1 k hne).trans (Below.heap_setCell (W.drewN n) ⟨g, 0, none⟩ v0 k hne)))))))
  have hm := MapS.made (((((((((W.drewN n).setCell ⟨g, 0, none⟩ v0).setCell ⟨g, 1, none⟩ v1).setCell ⟨g, 2, none⟩ v2).setCell ⟨g, 3, none⟩ v3).setCell ⟨g, 4, none⟩ v4).setCell ⟨g, 5, none⟩ v5).setCell ⟨g, 6, none⟩ v6).setCell ⟨g, 7, none⟩ v7)
  rw [hs] at hm
  have hb0 := (((((((((below_un (n := n) (HB.mono (Nat.zero_le _)) : Below 0 w (W.drewN n)).setCell (p := ⟨g, 0, none⟩) (Nat.zero_le _) v0).setCell (p := ⟨g, 1, none⟩) (Nat.zero_le _) v1).setCell (p := ⟨g, 2, none⟩) (Nat.zero_le _) v2).setCell (p := ⟨g, 3, none⟩) (Nat.zero_le _) v3).setCell (p := ⟨g, 4, none⟩) (Nat.zero_le _) v4).setCell (p := ⟨g, 5, none⟩) (Nat.zero_le _) v5).setCell (p := ⟨g, 6, none⟩) (Nat.zero_le _) v6).setCell (p := ⟨g, 7, none⟩) (Nat.zero_le _) v7).alloc (Nat.zero_le _) (.map #[] 0)
  generalize hW8 : (((((((((W.drewN n).setCell ⟨g, 0, none⟩ v0).setCell ⟨g, 1, none⟩ v1).setCell ⟨g, 2, none⟩ v2).setCell ⟨g, 3, none⟩ v3).setCell ⟨g, 4, none⟩ v4).setCell ⟨g, 5, none⟩ v5).setCell ⟨g, 6, none⟩ v6).setCell ⟨g, 7, none⟩ v7) = W8 at *
  subst q0 q1 q2 q3 q4 q6 q7
  refine ⟨⟨⟨_, _, _, _, blk_alloc h8 _⟩, fun h => by (cases h), fun b hb => by (injection hb with hb; rw [← hb]; exact hm)⟩, ⟨?_, ?_, ?_, ?_, fun k hkl h1 _ => ?_⟩⟩
  · exact hb0.os
  · exact hb0.tape
  · exact hb0.output
  · rw [World.size_alloc, hs]; omega
  · exact (Below.heap_alloc W8 _ k (by rw [hs]; omega)).trans ((hk k h1).trans (HB.block k hkl))

theorem not_end {w w1 : World} {g cnt : Nat} {a imm : Int} {is : Bool} {mb : Option Nat} {s : Sn} (hn : IsNext w g cnt a imm is mb s) (HB : Below w.heap.size w w1) : IsNext (w1.setCell ⟨g, 6, none⟩ (.bool false)) g cnt a imm false mb s ∧ Frame w (w1.setCell ⟨g, 6, none⟩ (.bool false)) g mb := by
  obtain ⟨k0, k1, k3, v5, hg⟩ := hn.ex
  have hg1 := (HB.block g (blk_lt hg)).trans hg
  have hb0 := (HB.mono (Nat.zero_le _)).setCell (p := ⟨g, 6, none⟩) (Nat.zero_le _) (.bool false)
  have hk : ∀ k, k < w.heap.size → k ≠ g → (w1.setCell ⟨g, 6, none⟩ (.bool false)).heap[k]? = w.heap[k]? := fun k hk hne => (Below.heap_setCell w1 ⟨g, 6, none⟩ _ k hne).trans (HB.block k hk)
  exact ⟨⟨⟨k0, k1, k3, v5, (blk_set hg1 6 (.bool false)).trans rfl⟩, hn.no, fun b hb => (hn.yes b hb).keep (hk b (hn.yes b hb).lt ((hn.yes b hb).not_cells hg))⟩, ⟨hb0.os, hb0.tape, hb0.output, hb0.size, fun k h1 h2 _ => hk k h1 h2⟩⟩
theorem ints_nil {w1 : World} {g : Nat} {v0 v1 v2 v3 v4 v5 v6 : Value} {t : TypeId} (hg : w1.heap[g]? = some (.cells #[v0, v1, v2, v3, v4, v5, v6, .map none] t (0, 0))) {A : Option Addr} {n : Nat} {xs : List Int} (h : Kd.C (Kd.int .i64) w1 A n xs) {u : Value} {o : Obj} : Kd.C (Kd.int .i64) ((w1.setCell ⟨g, 7, none⟩ u).alloc o) A n xs := by
  refine Kd.C_below (w := w1.setCell ⟨g, 7, none⟩ u) ⟨h.1, h.2.1, fun hn => ?_⟩ ((Below.refl _ _).alloc (Nat.le_refl _) o)
  obtain ⟨ad, e, hc⟩ := h.2.2 hn
  refine ⟨ad, e, fun j p hj => ?_⟩
  obtain ⟨c, hs, hr, hcell⟩ := hc j p hj
  refine ⟨c, hs, hr, fun i v hv => ?_⟩
  have hc1 : c = [.int .i64 p] := hr
  have h1 := hcell i v hv
  have hvi : v = .int .i64 p := by
    rw [hc1] at hv
    have := List.mem_of_getElem? hv
    simpa using this
  refine (World.cell?_setCell_other _ _ _ _ (fun e => ?_)).trans h1
  have h7 : w1.cell? ⟨g, 7, none⟩ = some (.map none) := (blk_cell hg 7).trans rfl
  rw [e, h1, hvi] at h7
  cases h7
theorem nil_made {w w1 : World} {g cnt : Nat} {a imm : Int} {is : Bool} {s : Sn} (hn : IsNext w g cnt a imm is none s) (HB : Below w.heap.size w w1) :
    IsNext ((w1.setCell ⟨g, 7, none⟩ (.map (some w1.heap.size))).alloc (.map #[] 0)) g 0 a imm is (some w1.heap.size) s ∧ Frame w ((w1.setCell ⟨g, 7, none⟩ (.map (some w1.heap.size))).alloc (.map #[] 0)) g none ∧ ((w1.setCell ⟨g, 7, none⟩ (.map (some w1.heap.size))).alloc (.map #[] 0)).heap.size = w1.heap.size + 1 ∧
      ∀ k, k < w1.heap.size → k ≠ g → ((w1.setCell ⟨g, 7, none⟩ (.map (some w1.heap.size))).alloc (.map #[] 0)).heap[k]? = w1.heap[k]? := by
  obtain ⟨k0, k1, k3, v5, hg⟩ := hn.ex
  have hg1 := (HB.block g (blk_lt hg)).trans hg
  have hs : (w1.setCell ⟨g, 7, none⟩ (.map (some w1.heap.size))).heap.size = w1.heap.size := by simp
  have hb0 := ((HB.mono (Nat.zero_le _)).setCell (p := ⟨g, 7, none⟩) (Nat.zero_le _) (.map (some w1.heap.size))).alloc (Nat.zero_le _) (.map #[] 0)
  have hkk : ∀ k, k < w1.heap.size → k ≠ g → ((w1.setCell ⟨g, 7, none⟩ (.map (some w1.heap.size))).alloc (.map #[] 0)).heap[k]? = w1.heap[k]? := fun k hk hne => (Below.heap_alloc _ _ k (by rw [hs]; exact hk)).trans (Below.heap_setCell w1 ⟨g, 7, none⟩ _ k hne)
  have hm := MapS.made (w1.setCell ⟨g, 7, none⟩ (.map (some w1.heap.size)))
  rw [hs] at hm
  refine ⟨⟨⟨k0, k1, k3, v5, blk_alloc ((blk_set hg1 7 (.map (some w1.heap.size))).trans rfl) _⟩, fun h => by (cases h), fun b hb => by (injection hb with hb; subst hb; rw [hn.no rfl]; exact hm)⟩, ⟨hb0.os, hb0.tape, hb0.output, hb0.size, fun k h1 h2 _ => (hkk k (Nat.lt_of_lt_of_le h1 HB.size) h2).trans (HB.block k h1)⟩, by rw [World.size_alloc, hs], hkk⟩
theorem frame_nil {w W2 w9 : World} {g b : Nat} (h : Frame w W2 g none) (k : Frame W2 w9 g (some b)) (hb : w.heap.size ≤ b) : Frame w w9 g none :=
  ⟨k.os.trans h.os, k.tape.trans h.tape, k.output.trans h.output, Nat.le_trans h.size k.size, fun i h1 h2 h3 => (k.block i (Nat.lt_of_lt_of_le h1 h.size) h2 (fun e => by (injection e with e; omega))).trans (h.block i h1 h2 h3)⟩
theorem owns_keep {w w' : World} {b cnt : Nat} {D : DataW Unit} (h : w.ownsMap Try.prog 3 (plainElem Try.prog 4) b cnt D) (hb : w'.heap[b]? = w.heap[b]?) : w'.ownsMap Try.prog 3 (plainElem Try.prog 4) b cnt D := by
  obtain ⟨es, clock, h1, h2⟩ := h
  exact ⟨es, clock, hb.trans h1, h2⟩
theorem pure_end {w w2 w9 : World} {g cnt b : Nat} {a imm v : Int} {is : Bool} {s : Sn} {D : DataW Unit} (hn : IsNext w g cnt a imm is (some b) s) (HB : Below w.heap.size w w2) (hD0 : w.ownsMap Try.prog 3 (plainElem Try.prog 4) b cnt D) (hT : TellsS D s)
    (hown : w9.ownsMap Try.prog 3 (plainElem Try.prog 4) b (cnt + 1) (D.put (.int .i64 v) (.lit (.bool true)))) (hgrow : w2.grownBy w9 (some b)) : IsNext w9 g (cnt + 1) a imm is (some b) (add s v) ∧ Frame w w9 g (some b) := by
  obtain ⟨k0, k1, k3, v5, hg⟩ := hn.ex
  have hbg : b ≠ g := (hn.yes b rfl).not_cells hg
  have hg2 := (HB.block g (blk_lt hg)).trans hg
  have hg9 := (hgrow.block g (blk_lt hg2) (fun e => hbg (by injection e with e; exact e.symm))).trans hg2
  refine ⟨⟨⟨k0, k1, k3, v5, hg9⟩, fun h => by (cases h), fun b' hb' => by (injection hb' with hb'; subst hb'; exact ⟨_, hown, hT.put hD0.isMap v⟩)⟩, ⟨hgrow.os.trans HB.os, hgrow.tape.trans HB.tape, hgrow.output.trans HB.output, Nat.le_trans HB.size hgrow.size, fun k h1 _ h3 => (hgrow.block k (Nat.lt_of_lt_of_le h1 HB.size) h3).trans (HB.block k h1)⟩⟩
set_option maxHeartbeats 8000000 in
set_option maxRecDepth 100000 in
theorem stepS1 (g cnt : Nat) (a imm : Int) (is : Bool) (mb : Option Nat) (s : Sn) (x : S30) (A : Option Addr) (c : Nat) (h2 : wf x.f2) (w : World) (hn : IsNext w g cnt a imm is mb s) (h5 : (x.f0 == 5) = true) (his : is = false) :
    Calls Try.prog 35 #[.pointer (some ⟨g, 0, none⟩), opV x (.slice A x.f5.length c)] w fun e w' => e = .returned (.bool false) ∧ IsNext w' g 0 x.f2 x.f4 true (some (w.heap.size + 1)) (fun _ => false) ∧ Frame w w' g mb := by
  have hmm := @run_makeMap Try.prog
  obtain ⟨k0, k1, k3, v5, hg0⟩ := hn.ex
  have gl : g < w.heap.size := blk_lt hg0
  unfold opV
  go_enter Try.func35, Try.ntmps35
  obtain ⟨o, ho⟩ : ∃ o : Obj, o = .cells #[.int .i64 x.f0, .int .i64 x.f1, .int .i64 x.f2, .int .i64 x.f3, .int .i64 x.f4, .slice A x.f5.length c] 30 := ⟨_, rfl⟩
  have HB : Aside0 (Below w.heap.size w (w.alloc o)) := Aside0.mk ((Below.refl _ _).alloc (Nat.le_refl _) o)
  have hx : (w.alloc o).heap[w.heap.size]? = some o := blk_new w o
  have hg := blk_alloc hg0 o
  have hz : (w.alloc o).heap.size = w.heap.size + 1 := World.size_alloc _ _
  have hlk : ∀ n, (Instr.lookup 55 (.map mb) (.int .i64 x.f2) false).run Try.prog ((w.alloc o).drewN n) = .ok (.bool (s x.f2)) ((w.alloc o).drewN n) := fun n => hn.look (W := (w.alloc o).drewN n) (below_un HB.out) _ h2
  go_wp2
  rw [← ho]
  clear hn
  generalize w.alloc o = W at *
  subst ho
  have x0 : W.cell? ⟨w.heap.size, 0, none⟩ = some (.int .i64 x.f0) := (blk_cell hx 0).trans rfl
  have x1 : W.cell? ⟨w.heap.size, 1, none⟩ = some (.int .i64 x.f1) := (blk_cell hx 1).trans rfl
  have x2 : W.cell? ⟨w.heap.size, 2, none⟩ = some (.int .i64 x.f2) := (blk_cell hx 2).trans rfl
  have x3 : W.cell? ⟨w.heap.size, 3, none⟩ = some (.int .i64 x.f3) := (blk_cell hx 3).trans rfl
  have x4 : W.cell? ⟨w.heap.size, 4, none⟩ = some (.int .i64 x.f4) := (blk_cell hx 4).trans rfl
  have x5 : W.cell? ⟨w.heap.size, 5, none⟩ = some (.slice A x.f5.length c) := (blk_cell hx 5).trans rfl
  have y0 : W.cell? ⟨g, 0, none⟩ = some (.int .i64 k0) := (blk_cell hg 0).trans rfl
  have y1 : W.cell? ⟨g, 1, none⟩ = some (.int .i64 k1) := (blk_cell hg 1).trans rfl
  have y2 : W.cell? ⟨g, 2, none⟩ = some (.int .i64 a) := (blk_cell hg 2).trans rfl
  have y3 : W.cell? ⟨g, 3, none⟩ = some (.int .i64 k3) := (blk_cell hg 3).trans rfl
  have y4 : W.cell? ⟨g, 4, none⟩ = some (.int .i64 imm) := (blk_cell hg 4).trans rfl
  have y5 : W.cell? ⟨g, 5, none⟩ = some v5 := (blk_cell hg 5).trans rfl
  have y6 : W.cell? ⟨g, 6, none⟩ = some (.bool is) := (blk_cell hg 6).trans rfl
  have y7 : W.cell? ⟨g, 7, none⟩ = some (.map mb) := (blk_cell hg 7).trans rfl
  have e0 : W.frozen? ⟨g, 0, none⟩ = false := blk_frozen hg 0
  have e1 : W.frozen? ⟨g, 1, none⟩ = false := blk_frozen hg 1
  have e2 : W.frozen? ⟨g, 2, none⟩ = false := blk_frozen hg 2
  have e3 : W.frozen? ⟨g, 3, none⟩ = false := blk_frozen hg 3
  have e4 : W.frozen? ⟨g, 4, none⟩ = false := blk_frozen hg 4
  have e5 : W.frozen? ⟨g, 5, none⟩ = false := blk_frozen hg 5
  have e6 : W.frozen? ⟨g, 6, none⟩ = false := blk_frozen hg 6
  have e7 : W.frozen? ⟨g, 7, none⟩ = false := blk_frozen hg 7
  replace hx := Aside0.mk hx
  replace hg := Aside0.mk hg
  subst his
  go_quiet (fail)
  clear hlk
  go_wp2
  refine bodyPost_ret (v := .bool false) (by simp [results, Try.results35, go_sem]) rfl ⟨rfl, ?_⟩
  exact store_end nq mb _ _ _ _ _ _ _ _ hg.out HB.out hz x _ _ _ _ _ _ _ _ rfl rfl rfl rfl rfl rfl rfl
set_option maxHeartbeats 8000000 in
set_option maxRecDepth 100000 in
theorem stepS2 (g cnt : Nat) (a imm : Int) (is : Bool) (mb : Option Nat) (s : Sn) (x : S30) (A : Option Addr) (c : Nat) (h2 : wf x.f2) (w : World) (hn : IsNext w g cnt a imm is mb s) (h5 : (x.f0 == 5) = true) (his : is = true) (ha : (a == x.f2) = false) :
    Calls Try.prog 35 #[.pointer (some ⟨g, 0, none⟩), opV x (.slice A x.f5.length c)] w fun e w' => e = .returned (.bool false) ∧ IsNext w' g 0 x.f2 x.f4 true (some (w.heap.size + 1)) (fun _ => false) ∧ Frame w w' g mb := by
  have hmm := @run_makeMap Try.prog
  obtain ⟨k0, k1, k3, v5, hg0⟩ := hn.ex
  have gl : g < w.heap.size := blk_lt hg0
  unfold opV
  go_enter Try.func35, Try.ntmps35
  obtain ⟨o, ho⟩ : ∃ o : Obj, o = .cells #[.int .i64 x.f0, .int .i64 x.f1, .int .i64 x.f2, .int .i64 x.f3, .int .i64 x.f4, .slice A x.f5.length c] 30 := ⟨_, rfl⟩
  have HB : Aside0 (Below w.heap.size w (w.alloc o)) := Aside0.mk ((Below.refl _ _).alloc (Nat.le_refl _) o)
  have hx : (w.alloc o).heap[w.heap.size]? = some o := blk_new w o
  have hg := blk_alloc hg0 o
  have hz : (w.alloc o).heap.size = w.heap.size + 1 := World.size_alloc _ _
  have hlk : ∀ n, (Instr.lookup 55 (.map mb) (.int .i64 x.f2) false).run Try.prog ((w.alloc o).drewN n) = .ok (.bool (s x.f2)) ((w.alloc o).drewN n) := fun n => hn.look (W := (w.alloc o).drewN n) (below_un HB.out) _ h2
  go_wp2
  rw [← ho]
  clear hn
  generalize w.alloc o = W at *
  subst ho
  have x0 : W.cell? ⟨w.heap.size, 0, none⟩ = some (.int .i64 x.f0) := (blk_cell hx 0).trans rfl
  have x1 : W.cell? ⟨w.heap.size, 1, none⟩ = some (.int .i64 x.f1) := (blk_cell hx 1).trans rfl
  have x2 : W.cell? ⟨w.heap.size, 2, none⟩ = some (.int .i64 x.f2) := (blk_cell hx 2).trans rfl
  have x3 : W.cell? ⟨w.heap.size, 3, none⟩ = some (.int .i64 x.f3) := (blk_cell hx 3).trans rfl
  have x4 : W.cell? ⟨w.heap.size, 4, none⟩ = some (.int .i64 x.f4) := (blk_cell hx 4).trans rfl
  have x5 : W.cell? ⟨w.heap.size, 5, none⟩ = some (.slice A x.f5.length c) := (blk_cell hx 5).trans rfl
  have y0 : W.cell? ⟨g, 0, none⟩ = some (.int .i64 k0) := (blk_cell hg 0).trans rfl
  have y1 : W.cell? ⟨g, 1, none⟩ = some (.int .i64 k1) := (blk_cell hg 1).trans rfl
  have y2 : W.cell? ⟨g, 2, none⟩ = some (.int .i64 a) := (blk_cell hg 2).trans rfl
  have y3 : W.cell? ⟨g, 3, none⟩ = some (.int .i64 k3) := (blk_cell hg 3).trans rfl
  have y4 : W.cell? ⟨g, 4, none⟩ = some (.int .i64 imm) := (blk_cell hg 4).trans rfl
  have y5 : W.cell? ⟨g, 5, none⟩ = some v5 := (blk_cell hg 5).trans rfl
  have y6 : W.cell? ⟨g, 6, none⟩ = some (.bool is) := (blk_cell hg 6).trans rfl
  have y7 : W.cell? ⟨g, 7, none⟩ = some (.map mb) := (blk_cell hg 7).trans rfl
  have e0 : W.frozen? ⟨g, 0, none⟩ = false := blk_frozen hg 0
  have e1 : W.frozen? ⟨g, 1, none⟩ = false := blk_frozen hg 1
  have e2 : W.frozen? ⟨g, 2, none⟩ = false := blk_frozen hg 2
  have e3 : W.frozen? ⟨g, 3, none⟩ = false := blk_frozen hg 3
  have e4 : W.frozen? ⟨g, 4, none⟩ = false := blk_frozen hg 4
  have e5 : W.frozen? ⟨g, 5, none⟩ = false := blk_frozen hg 5
  have e6 : W.frozen? ⟨g, 6, none⟩ = false := blk_frozen hg 6
  have e7 : W.frozen? ⟨g, 7, none⟩ = false := blk_frozen hg 7
  replace hx := Aside0.mk hx
  replace hg := Aside0.mk hg
  subst his
  go_quiet (fail)
  clear hlk
  go_wp2
  refine bodyPost_ret (v := .bool false) (by simp [results, Try.results35, go_sem]) rfl ⟨rfl, ?_⟩
  exact store_end nq mb _ _ _ _ _ _ _ _ hg.out HB.out hz x _ _ _ _ _ _ _ _ rfl rfl rfl rfl rfl rfl rfl
set_option maxHeartbeats 8000000 in
set_option maxRecDepth 100000 in
theorem stepS3 (g cnt : Nat) (a imm : Int) (is : Bool) (mb : Option Nat) (s : Sn) (x : S30) (A : Option Addr) (c : Nat) (h2 : wf x.f2) (w : World) (hn : IsNext w g cnt a imm is mb s) (h5 : (x.f0 == 5) = true) (his : is = true) (ha : (a == x.f2) = true) (hi : (imm == x.f4) = false) :
    Calls Try.prog 35 #[.pointer (some ⟨g, 0, none⟩), opV x (.slice A x.f5.length c)] w fun e w' => e = .returned (.bool false) ∧ IsNext w' g 0 x.f2 x.f4 true (some (w.heap.size + 1)) (fun _ => false) ∧ Frame w w' g mb := by
  have hmm := @run_makeMap Try.prog
  obtain ⟨k0, k1, k3, v5, hg0⟩ := hn.ex
  have gl : g < w.heap.size := blk_lt hg0
  unfold opV
  go_enter Try.func35, Try.ntmps35
  obtain ⟨o, ho⟩ : ∃ o : Obj, o = .cells #[.int .i64 x.f0, .int .i64 x.f1, .int .i64 x.f2, .int .i64 x.f3, .int .i64 x.f4, .slice A x.f5.length c] 30 := ⟨_, rfl⟩
  have HB : Aside0 (Below w.heap.size w (w.alloc o)) := Aside0.mk ((Below.refl _ _).alloc (Nat.le_refl _) o)
  have hx : (w.alloc o).heap[w.heap.size]? = some o := blk_new w o
  have hg := blk_alloc hg0 o
  have hz : (w.alloc o).heap.size = w.heap.size + 1 := World.size_alloc _ _
  have hlk : ∀ n, (Instr.lookup 55 (.map mb) (.int .i64 x.f2) false).run Try.prog ((w.alloc o).drewN n) = .ok (.bool (s x.f2)) ((w.alloc o).drewN n) := fun n => hn.look (W := (w.alloc o).drewN n) (below_un HB.out) _ h2
  go_wp2
  rw [← ho]
  clear hn
  generalize w.alloc o = W at *
  subst ho
  have x0 : W.cell? ⟨w.heap.size, 0, none⟩ = some (.int .i64 x.f0) := (blk_cell hx 0).trans rfl
  have x1 : W.cell? ⟨w.heap.size, 1, none⟩ = some (.int .i64 x.f1) := (blk_cell hx 1).trans rfl
  have x2 : W.cell? ⟨w.heap.size, 2, none⟩ = some (.int .i64 x.f2) := (blk_cell hx 2).trans rfl
  have x3 : W.cell? ⟨w.heap.size, 3, none⟩ = some (.int .i64 x.f3) := (blk_cell hx 3).trans rfl
  have x4 : W.cell? ⟨w.heap.size, 4, none⟩ = some (.int .i64 x.f4) := (blk_cell hx 4).trans rfl
  have x5 : W.cell? ⟨w.heap.size, 5, none⟩ = some (.slice A x.f5.length c) := (blk_cell hx 5).trans rfl
  have y0 : W.cell? ⟨g, 0, none⟩ = some (.int .i64 k0) := (blk_cell hg 0).trans rfl
  have y1 : W.cell? ⟨g, 1, none⟩ = some (.int .i64 k1) := (blk_cell hg 1).trans rfl
  have y2 : W.cell? ⟨g, 2, none⟩ = some (.int .i64 a) := (blk_cell hg 2).trans rfl
  have y3 : W.cell? ⟨g, 3, none⟩ = some (.int .i64 k3) := (blk_cell hg 3).trans rfl
  have y4 : W.cell? ⟨g, 4, none⟩ = some (.int .i64 imm) := (blk_cell hg 4).trans rfl
  have y5 : W.cell? ⟨g, 5, none⟩ = some v5 := (blk_cell hg 5).trans rfl
  have y6 : W.cell? ⟨g, 6, none⟩ = some (.bool is) := (blk_cell hg 6).trans rfl
  have y7 : W.cell? ⟨g, 7, none⟩ = some (.map mb) := (blk_cell hg 7).trans rfl
  have e0 : W.frozen? ⟨g, 0, none⟩ = false := blk_frozen hg 0
  have e1 : W.frozen? ⟨g, 1, none⟩ = false := blk_frozen hg 1
  have e2 : W.frozen? ⟨g, 2, none⟩ = false := blk_frozen hg 2
  have e3 : W.frozen? ⟨g, 3, none⟩ = false := blk_frozen hg 3
  have e4 : W.frozen? ⟨g, 4, none⟩ = false := blk_frozen hg 4
  have e5 : W.frozen? ⟨g, 5, none⟩ = false := blk_frozen hg 5
  have e6 : W.frozen? ⟨g, 6, none⟩ = false := blk_frozen hg 6
  have e7 : W.frozen? ⟨g, 7, none⟩ = false := blk_frozen hg 7
  replace hx := Aside0.mk hx
  replace hg := Aside0.mk hg
  subst his
  go_quiet (fail)
  clear hlk
  go_wp2
  refine bodyPost_ret (v := .bool false) (by simp [results, Try.results35, go_sem]) rfl ⟨rfl, ?_⟩
  exact store_end nq mb _ _ _ _ _ _ _ _ hg.out HB.out hz x _ _ _ _ _ _ _ _ rfl rfl rfl rfl rfl rfl rfl
set_option maxHeartbeats 8000000 in
set_option maxRecDepth 100000 in
theorem stepS4 (g cnt : Nat) (a imm : Int) (is : Bool) (mb : Option Nat) (s : Sn) (x : S30) (A : Option Addr) (c : Nat) (h2 : wf x.f2) (w : World) (hn : IsNext w g cnt a imm is mb s) (h5 : (x.f0 == 5) = true) (his : is = true) (ha : (a == x.f2) = true) (hi : (imm == x.f4) = true) (hs : s x.f2 = true) :
    Calls Try.prog 35 #[.pointer (some ⟨g, 0, none⟩), opV x (.slice A x.f5.length c)] w fun e w' => e = .returned (.bool false) ∧ IsNext w' g 0 x.f2 x.f4 true (some (w.heap.size + 1)) (fun _ => false) ∧ Frame w w' g mb := by
  have hmm := @run_makeMap Try.prog
  obtain ⟨k0, k1, k3, v5, hg0⟩ := hn.ex
  have gl : g < w.heap.size := blk_lt hg0
  unfold opV
  go_enter Try.func35, Try.ntmps35
  obtain ⟨o, ho⟩ : ∃ o : Obj, o = .cells #[.int .i64 x.f0, .int .i64 x.f1, .int .i64 x.f2, .int .i64 x.f3, .int .i64 x.f4, .slice A x.f5.length c] 30 := ⟨_, rfl⟩
  have HB : Aside0 (Below w.heap.size w (w.alloc o)) := Aside0.mk ((Below.refl _ _).alloc (Nat.le_refl _) o)
  have hx : (w.alloc o).heap[w.heap.size]? = some o := blk_new w o
  have hg := blk_alloc hg0 o
  have hz : (w.alloc o).heap.size = w.heap.size + 1 := World.size_alloc _ _
  have hlk : ∀ n, (Instr.lookup 55 (.map mb) (.int .i64 x.f2) false).run Try.prog ((w.alloc o).drewN n) = .ok (.bool (s x.f2)) ((w.alloc o).drewN n) := fun n => hn.look (W := (w.alloc o).drewN n) (below_un HB.out) _ h2
  go_wp2
  rw [← ho]
  clear hn
  generalize w.alloc o = W at *
  subst ho
  have x0 : W.cell? ⟨w.heap.size, 0, none⟩ = some (.int .i64 x.f0) := (blk_cell hx 0).trans rfl
  have x1 : W.cell? ⟨w.heap.size, 1, none⟩ = some (.int .i64 x.f1) := (blk_cell hx 1).trans rfl
  have x2 : W.cell? ⟨w.heap.size, 2, none⟩ = some (.int .i64 x.f2) := (blk_cell hx 2).trans rfl
  have x3 : W.cell? ⟨w.heap.size, 3, none⟩ = some (.int .i64 x.f3) := (blk_cell hx 3).trans rfl
  have x4 : W.cell? ⟨w.heap.size, 4, none⟩ = some (.int .i64 x.f4) := (blk_cell hx 4).trans rfl
  have x5 : W.cell? ⟨w.heap.size, 5, none⟩ = some (.slice A x.f5.length c) := (blk_cell hx 5).trans rfl
  have y0 : W.cell? ⟨g, 0, none⟩ = some (.int .i64 k0) := (blk_cell hg 0).trans rfl
  have y1 : W.cell? ⟨g, 1, none⟩ = some (.int .i64 k1) := (blk_cell hg 1).trans rfl
  have y2 : W.cell? ⟨g, 2, none⟩ = some (.int .i64 a) := (blk_cell hg 2).trans rfl
  have y3 : W.cell? ⟨g, 3, none⟩ = some (.int .i64 k3) := (blk_cell hg 3).trans rfl
  have y4 : W.cell? ⟨g, 4, none⟩ = some (.int .i64 imm) := (blk_cell hg 4).trans rfl
  have y5 : W.cell? ⟨g, 5, none⟩ = some v5 := (blk_cell hg 5).trans rfl
  have y6 : W.cell? ⟨g, 6, none⟩ = some (.bool is) := (blk_cell hg 6).trans rfl
  have y7 : W.cell? ⟨g, 7, none⟩ = some (.map mb) := (blk_cell hg 7).trans rfl
  have e0 : W.frozen? ⟨g, 0, none⟩ = false := blk_frozen hg 0
  have e1 : W.frozen? ⟨g, 1, none⟩ = false := blk_frozen hg 1
  have e2 : W.frozen? ⟨g, 2, none⟩ = false := blk_frozen hg 2
  have e3 : W.frozen? ⟨g, 3, none⟩ = false := blk_frozen hg 3
  have e4 : W.frozen? ⟨g, 4, none⟩ = false := blk_frozen hg 4
  have e5 : W.frozen? ⟨g, 5, none⟩ = false := blk_frozen hg 5
  have e6 : W.frozen? ⟨g, 6, none⟩ = false := blk_frozen hg 6
  have e7 : W.frozen? ⟨g, 7, none⟩ = false := blk_frozen hg 7
  replace hx := Aside0.mk hx
  replace hg := Aside0.mk hg
  subst his
  rw [hs] at hlk
  go_quiet (fail)
  clear hlk
  go_wp2
  refine bodyPost_ret (v := .bool false) (by simp [results, Try.results35, go_sem]) rfl ⟨rfl, ?_⟩
  exact store_end nq mb _ _ _ _ _ _ _ _ hg.out HB.out hz x _ _ _ _ _ _ _ _ rfl rfl rfl rfl rfl rfl rfl
set_option maxHeartbeats 8000000 in
set_option maxRecDepth 100000 in
theorem stepS5 (g cnt : Nat) (a imm : Int) (is : Bool) (mb : Option Nat) (s : Sn) (x : S30) (A : Option Addr) (c : Nat) (h2 : wf x.f2) (w : World) (hn : IsNext w g cnt a imm is mb s) (h5 : (x.f0 == 5) = true) (his : is = true) (ha : (a == x.f2) = true) (hi : (imm == x.f4) = true) (hs : s x.f2 = false) :
    Calls Try.prog 35 #[.pointer (some ⟨g, 0, none⟩), opV x (.slice A x.f5.length c)] w fun e w' => e = .returned (.bool true) ∧ IsNext w' g 0 x.f2 x.f4 true (some (w.heap.size + 1)) (fun _ => false) ∧ Frame w w' g mb := by
  have hmm := @run_makeMap Try.prog
  obtain ⟨k0, k1, k3, v5, hg0⟩ := hn.ex
  have gl : g < w.heap.size := blk_lt hg0
  unfold opV
  go_enter Try.func35, Try.ntmps35
  obtain ⟨o, ho⟩ : ∃ o : Obj, o = .cells #[.int .i64 x.f0, .int .i64 x.f1, .int .i64 x.f2, .int .i64 x.f3, .int .i64 x.f4, .slice A x.f5.length c] 30 := ⟨_, rfl⟩
  have HB : Aside0 (Below w.heap.size w (w.alloc o)) := Aside0.mk ((Below.refl _ _).alloc (Nat.le_refl _) o)
  have hx : (w.alloc o).heap[w.heap.size]? = some o := blk_new w o
  have hg := blk_alloc hg0 o
  have hz : (w.alloc o).heap.size = w.heap.size + 1 := World.size_alloc _ _
  have hlk : ∀ n, (Instr.lookup 55 (.map mb) (.int .i64 x.f2) false).run Try.prog ((w.alloc o).drewN n) = .ok (.bool (s x.f2)) ((w.alloc o).drewN n) := fun n => hn.look (W := (w.alloc o).drewN n) (below_un HB.out) _ h2
  go_wp2
  rw [← ho]
  clear hn
  generalize w.alloc o = W at *
  subst ho
  have x0 : W.cell? ⟨w.heap.size, 0, none⟩ = some (.int .i64 x.f0) := (blk_cell hx 0).trans rfl
  have x1 : W.cell? ⟨w.heap.size, 1, none⟩ = some (.int .i64 x.f1) := (blk_cell hx 1).trans rfl
  have x2 : W.cell? ⟨w.heap.size, 2, none⟩ = some (.int .i64 x.f2) := (blk_cell hx 2).trans rfl
  have x3 : W.cell? ⟨w.heap.size, 3, none⟩ = some (.int .i64 x.f3) := (blk_cell hx 3).trans rfl
  have x4 : W.cell? ⟨w.heap.size, 4, none⟩ = some (.int .i64 x.f4) := (blk_cell hx 4).trans rfl
  have x5 : W.cell? ⟨w.heap.size, 5, none⟩ = some (.slice A x.f5.length c) := (blk_cell hx 5).trans rfl
  have y0 : W.cell? ⟨g, 0, none⟩ = some (.int .i64 k0) := (blk_cell hg 0).trans rfl
  have y1 : W.cell? ⟨g, 1, none⟩ = some (.int .i64 k1) := (blk_cell hg 1).trans rfl
  have y2 : W.cell? ⟨g, 2, none⟩ = some (.int .i64 a) := (blk_cell hg 2).trans rfl
  have y3 : W.cell? ⟨g, 3, none⟩ = some (.int .i64 k3) := (blk_cell hg 3).trans rfl
  have y4 : W.cell? ⟨g, 4, none⟩ = some (.int .i64 imm) := (blk_cell hg 4).trans rfl
  have y5 : W.cell? ⟨g, 5, none⟩ = some v5 := (blk_cell hg 5).trans rfl
  have y6 : W.cell? ⟨g, 6, none⟩ = some (.bool is) := (blk_cell hg 6).trans rfl
  have y7 : W.cell? ⟨g, 7, none⟩ = some (.map mb) := (blk_cell hg 7).trans rfl
  have e0 : W.frozen? ⟨g, 0, none⟩ = false := blk_frozen hg 0
  have e1 : W.frozen? ⟨g, 1, none⟩ = false := blk_frozen hg 1
  have e2 : W.frozen? ⟨g, 2, none⟩ = false := blk_frozen hg 2
  have e3 : W.frozen? ⟨g, 3, none⟩ = false := blk_frozen hg 3
  have e4 : W.frozen? ⟨g, 4, none⟩ = false := blk_frozen hg 4
  have e5 : W.frozen? ⟨g, 5, none⟩ = false := blk_frozen hg 5
  have e6 : W.frozen? ⟨g, 6, none⟩ = false := blk_frozen hg 6
  have e7 : W.frozen? ⟨g, 7, none⟩ = false := blk_frozen hg 7
  replace hx := Aside0.mk hx
  replace hg := Aside0.mk hg
  subst his
  rw [hs] at hlk
  go_quiet (fail)
  clear hlk
  go_wp2
  refine bodyPost_ret (v := .bool true) (by simp [results, Try.results35, go_sem]) rfl ⟨rfl, ?_⟩
  exact store_end nq mb _ _ _ _ _ _ _ _ hg.out HB.out hz x _ _ _ _ _ _ _ _ rfl rfl rfl rfl rfl rfl rfl
set_option maxHeartbeats 8000000 in
set_option maxRecDepth 100000 in
theorem stepN (g cnt : Nat) (a imm : Int) (is : Bool) (mb : Option Nat) (s : Sn) (x : S30) (A : Option Addr) (c : Nat) (h2 : wf x.f2) (w : World) (hn : IsNext w g cnt a imm is mb s) (hr : Kd.C (Kd.int .i64) w A x.f5.length x.f5) (hc : x.f5.length ≤ c) (h5 : (x.f0 == 5) = false) (hp : pureB x = false) :
    Calls Try.prog 35 #[.pointer (some ⟨g, 0, none⟩), opV x (.slice A x.f5.length c)] w fun e w' => e = .returned (.bool false) ∧ IsNext w' g cnt a imm false mb s ∧ Frame w w' g mb := by
  have hP : ∀ W, Below w.heap.size w W → Calls Try.prog 32 #[.agg #[.int .i64 x.f0, .int .i64 x.f1, .int .i64 x.f2, .int .i64 x.f3, .int .i64 x.f4, .slice A x.f5.length c]] W fun e w' => e = .returned (.bool (pureB x)) ∧ Below W.heap.size W w' := fun W hb => code_Pure.calls 12 x.f0 x.f1 x.f2 x.f3 x.f4 A c x.f5 (pureB x) W (Kd.C_below hr hb) hc (pure_some x)
  rw [hp] at hP
  have hmm := @run_makeMap Try.prog
  obtain ⟨k0, k1, k3, v5, hg0⟩ := hn.ex
  have gl : g < w.heap.size := blk_lt hg0
  unfold opV
  go_enter Try.func35, Try.ntmps35
  obtain ⟨o, ho⟩ : ∃ o : Obj, o = .cells #[.int .i64 x.f0, .int .i64 x.f1, .int .i64 x.f2, .int .i64 x.f3, .int .i64 x.f4, .slice A x.f5.length c] 30 := ⟨_, rfl⟩
  have HB : Aside0 (Below w.heap.size w (w.alloc o)) := Aside0.mk ((Below.refl _ _).alloc (Nat.le_refl _) o)
  have hx : (w.alloc o).heap[w.heap.size]? = some o := blk_new w o
  have hg := blk_alloc hg0 o
  have hz : (w.alloc o).heap.size = w.heap.size + 1 := World.size_alloc _ _
  subst ho
  replace hn := Aside0.mk hn
  replace hx := Aside0.mk hx
  replace hg := Aside0.mk hg
  go_wp2_with (go_at_call 32; refine (hP _ ?hb).mono ?_; (case hb => exact HB.out); rintro e w1 ⟨rfl, hb1⟩; have hx1 := Aside0.mk ((hb1.block w.heap.size (by rw [hz]; omega)).trans hx.out); have hg1 := Aside0.mk ((hb1.block g (by rw [hz]; omega)).trans hg.out); have HB1 := Aside0.mk (HB.out.trans (hb1.mono HB.out.size)); have hz1 : w.heap.size + 1 ≤ w1.heap.size := (by have := hb1.size; rw [hz] at this; exact this); have gl1 : g < w1.heap.size := (by omega); have z0 : w1.cell? ⟨w.heap.size, 0, none⟩ = some (.int .i64 x.f0) := (blk_cell hx1.out 0).trans rfl; have z1 : w1.cell? ⟨w.heap.size, 1, none⟩ = some (.int .i64 x.f1) := (blk_cell hx1.out 1).trans rfl; have z2 : w1.cell? ⟨w.heap.size, 2, none⟩ = some (.int .i64 x.f2) := (blk_cell hx1.out 2).trans rfl; have z3 : w1.cell? ⟨w.heap.size, 3, none⟩ = some (.int .i64 x.f3) := (blk_cell hx1.out 3).trans rfl; have z4 : w1.cell? ⟨w.heap.size, 4, none⟩ = some (.int .i64 x.f4) := (blk_cell hx1.out 4).trans rfl; have z5 : w1.cell? ⟨w.heap.size, 5, none⟩ = some (.slice A x.f5.length c) := (blk_cell hx1.out 5).trans rfl; have p0 : w1.cell? ⟨g, 0, none⟩ = some (.int .i64 k0) := (blk_cell hg1.out 0).trans rfl; have p1 : w1.cell? ⟨g, 1, none⟩ = some (.int .i64 k1) := (blk_cell hg1.out 1).trans rfl; have p2 : w1.cell? ⟨g, 2, none⟩ = some (.int .i64 a) := (blk_cell hg1.out 2).trans rfl; have p3 : w1.cell? ⟨g, 3, none⟩ = some (.int .i64 k3) := (blk_cell hg1.out 3).trans rfl; have p4 : w1.cell? ⟨g, 4, none⟩ = some (.int .i64 imm) := (blk_cell hg1.out 4).trans rfl; have p5 : w1.cell? ⟨g, 5, none⟩ = some v5 := (blk_cell hg1.out 5).trans rfl; have p6 : w1.cell? ⟨g, 6, none⟩ = some (.bool is) := (blk_cell hg1.out 6).trans rfl; have p7 : w1.cell? ⟨g, 7, none⟩ = some (.map mb) := (blk_cell hg1.out 7).trans rfl; have f0 : w1.frozen? ⟨g, 0, none⟩ = false := blk_frozen hg1.out 0; have f1 : w1.frozen? ⟨g, 1, none⟩ = false := blk_frozen hg1.out 1; have f2 : w1.frozen? ⟨g, 2, none⟩ = false := blk_frozen hg1.out 2; have f3 : w1.frozen? ⟨g, 3, none⟩ = false := blk_frozen hg1.out 3; have f4 : w1.frozen? ⟨g, 4, none⟩ = false := blk_frozen hg1.out 4; have f5 : w1.frozen? ⟨g, 5, none⟩ = false := blk_frozen hg1.out 5; have f6 : w1.frozen? ⟨g, 6, none⟩ = false := blk_frozen hg1.out 6; have f7 : w1.frozen? ⟨g, 7, none⟩ = false := blk_frozen hg1.out 7; clear hb1)
  refine bodyPost_ret (v := .bool false) (by simp [results, Try.results35, go_sem]) rfl ⟨rfl, ?_⟩
  exact not_end hn.out HB1.out
set_option maxHeartbeats 8000000 in
set_option maxRecDepth 100000 in
theorem stepW (g cnt : Nat) (a imm : Int) (is : Bool) (mb : Option Nat) (s : Sn) (x : S30) (A : Option Addr) (c : Nat) (h2 : wf x.f2) (w : World) (hn : IsNext w g cnt a imm is mb s) (hr : Kd.C (Kd.int .i64) w A x.f5.length x.f5) (hc : x.f5.length ≤ c) (h5 : (x.f0 == 5) = false) (hp : pureB x = true) (b : Nat) (hmb : mb = some b) (hcnt : cnt < maxLen) (h1 : wf x.f1) :
    Calls Try.prog 35 #[.pointer (some ⟨g, 0, none⟩), opV x (.slice A x.f5.length c)] w fun e w' => e = .returned (.bool false) ∧ IsNext w' g (cnt + 1) a imm is (some b) (add s (setsI x)) ∧ Frame w w' g (some b) := by
  have hP : ∀ W, Below w.heap.size w W → Calls Try.prog 32 #[.agg #[.int .i64 x.f0, .int .i64 x.f1, .int .i64 x.f2, .int .i64 x.f3, .int .i64 x.f4, .slice A x.f5.length c]] W fun e w' => e = .returned (.bool (pureB x)) ∧ Below W.heap.size W w' := fun W hb => code_Pure.calls 12 x.f0 x.f1 x.f2 x.f3 x.f4 A c x.f5 (pureB x) W (Kd.C_below hr hb) hc (pure_some x)
  rw [hp] at hP
  have hS : ∀ W, Below w.heap.size w W → Calls Try.prog 31 #[.agg #[.int .i64 x.f0, .int .i64 x.f1, .int .i64 x.f2, .int .i64 x.f3, .int .i64 x.f4, .slice A x.f5.length c]] W fun e w' => e = .returned (.int .i64 (setsI x)) ∧ Below W.heap.size W w' := fun W hb => code_Sets.calls 9 x.f0 x.f1 x.f2 x.f3 x.f4 A c x.f5 (setsI x) W (Kd.C_below hr hb) hc (sets_some x)
  subst hmb
  have hmn := fun W => run_eql_map_nil (P := Try.prog) W 55 3 4 (some b) Try.underlying55
  rw [show (some b).isNone = false from rfl] at hmn
  have hd : wf (setsI x) := by unfold setsI; split; (· exact wf_zero); (· exact h1)
  have hkey := key3 hd
  have hcl := Aside0.mk hcnt
  have hval := Aside0.mk (plainElem_bool (H := Unit) Try.underlying4 true)
  obtain ⟨D, hD0, hT⟩ := hn.yes b rfl
  have bl : b < w.heap.size := hD0.lt
  replace hD0 := Aside0.mk hD0
  replace hT := Aside0.mk hT
  have hmm := @run_makeMap Try.prog
  obtain ⟨k0, k1, k3, v5, hg0⟩ := hn.ex
  have gl : g < w.heap.size := blk_lt hg0
  unfold opV
  go_enter Try.func35, Try.ntmps35
  obtain ⟨o, ho⟩ : ∃ o : Obj, o = .cells #[.int .i64 x.f0, .int .i64 x.f1, .int .i64 x.f2, .int .i64 x.f3, .int .i64 x.f4, .slice A x.f5.length c] 30 := ⟨_, rfl⟩
  have HB : Aside0 (Below w.heap.size w (w.alloc o)) := Aside0.mk ((Below.refl _ _).alloc (Nat.le_refl _) o)
  have hx : (w.alloc o).heap[w.heap.size]? = some o := blk_new w o
  have hg := blk_alloc hg0 o
  have hz : (w.alloc o).heap.size = w.heap.size + 1 := World.size_alloc _ _
  subst ho
  replace hn := Aside0.mk hn
  replace hx := Aside0.mk hx
  replace hg := Aside0.mk hg
  go_wp2_with (go_at_call 32; refine (hP _ ?hb).mono ?_; (case hb => exact HB.out); rintro e w1 ⟨rfl, hb1⟩; have hx1 := Aside0.mk ((hb1.block w.heap.size (by rw [hz]; omega)).trans hx.out); have hg1 := Aside0.mk ((hb1.block g (by rw [hz]; omega)).trans hg.out); have HB1 := Aside0.mk (HB.out.trans (hb1.mono HB.out.size)); have hz1 : w.heap.size + 1 ≤ w1.heap.size := (by have := hb1.size; rw [hz] at this; exact this); have gl1 : g < w1.heap.size := (by omega); have z0 : w1.cell? ⟨w.heap.size, 0, none⟩ = some (.int .i64 x.f0) := (blk_cell hx1.out 0).trans rfl; have z1 : w1.cell? ⟨w.heap.size, 1, none⟩ = some (.int .i64 x.f1) := (blk_cell hx1.out 1).trans rfl; have z2 : w1.cell? ⟨w.heap.size, 2, none⟩ = some (.int .i64 x.f2) := (blk_cell hx1.out 2).trans rfl; have z3 : w1.cell? ⟨w.heap.size, 3, none⟩ = some (.int .i64 x.f3) := (blk_cell hx1.out 3).trans rfl; have z4 : w1.cell? ⟨w.heap.size, 4, none⟩ = some (.int .i64 x.f4) := (blk_cell hx1.out 4).trans rfl; have z5 : w1.cell? ⟨w.heap.size, 5, none⟩ = some (.slice A x.f5.length c) := (blk_cell hx1.out 5).trans rfl; have p0 : w1.cell? ⟨g, 0, none⟩ = some (.int .i64 k0) := (blk_cell hg1.out 0).trans rfl; have p1 : w1.cell? ⟨g, 1, none⟩ = some (.int .i64 k1) := (blk_cell hg1.out 1).trans rfl; have p2 : w1.cell? ⟨g, 2, none⟩ = some (.int .i64 a) := (blk_cell hg1.out 2).trans rfl; have p3 : w1.cell? ⟨g, 3, none⟩ = some (.int .i64 k3) := (blk_cell hg1.out 3).trans rfl; have p4 : w1.cell? ⟨g, 4, none⟩ = some (.int .i64 imm) := (blk_cell hg1.out 4).trans rfl; have p5 : w1.cell? ⟨g, 5, none⟩ = some v5 := (blk_cell hg1.out 5).trans rfl; have p6 : w1.cell? ⟨g, 6, none⟩ = some (.bool is) := (blk_cell hg1.out 6).trans rfl; have p7 : w1.cell? ⟨g, 7, none⟩ = some (.map (some b)) := (blk_cell hg1.out 7).trans rfl; have f0 : w1.frozen? ⟨g, 0, none⟩ = false := blk_frozen hg1.out 0; have f1 : w1.frozen? ⟨g, 1, none⟩ = false := blk_frozen hg1.out 1; have f2 : w1.frozen? ⟨g, 2, none⟩ = false := blk_frozen hg1.out 2; have f3 : w1.frozen? ⟨g, 3, none⟩ = false := blk_frozen hg1.out 3; have f4 : w1.frozen? ⟨g, 4, none⟩ = false := blk_frozen hg1.out 4; have f5 : w1.frozen? ⟨g, 5, none⟩ = false := blk_frozen hg1.out 5; have f6 : w1.frozen? ⟨g, 6, none⟩ = false := blk_frozen hg1.out 6; have f7 : w1.frozen? ⟨g, 7, none⟩ = false := blk_frozen hg1.out 7; clear hb1)
  go_region_with (go_at_call 31; (with_reducible refine (hS _ ?hb).mono ?_); (case hb => first | exact HB1.out | exact HB1.out.drew | exact below_unI HB1.out); rintro e w2 ⟨rfl, hb2⟩; have hx2 := Aside0.mk ((hb2.block w.heap.size (by show _ < w1.heap.size; omega)).trans hx1.out); have hg2 := Aside0.mk ((hb2.block g (by show _ < w1.heap.size; omega)).trans hg1.out); have HB2 : Aside0 (Below w.heap.size w w2) := Aside0.mk (HB1.out.trans ((show Below w1.heap.size w1 w2 from ⟨hb2.os, hb2.tape, hb2.output, hb2.size, hb2.block⟩).mono HB1.out.size)); have t0 : w2.cell? ⟨w.heap.size, 0, none⟩ = some (.int .i64 x.f0) := (blk_cell hx2.out 0).trans rfl; have t1 : w2.cell? ⟨w.heap.size, 1, none⟩ = some (.int .i64 x.f1) := (blk_cell hx2.out 1).trans rfl; have t2 : w2.cell? ⟨w.heap.size, 2, none⟩ = some (.int .i64 x.f2) := (blk_cell hx2.out 2).trans rfl; have t3 : w2.cell? ⟨w.heap.size, 3, none⟩ = some (.int .i64 x.f3) := (blk_cell hx2.out 3).trans rfl; have t4 : w2.cell? ⟨w.heap.size, 4, none⟩ = some (.int .i64 x.f4) := (blk_cell hx2.out 4).trans rfl; have t5 : w2.cell? ⟨w.heap.size, 5, none⟩ = some (.slice A x.f5.length c) := (blk_cell hx2.out 5).trans rfl; have r7 : w2.cell? ⟨g, 7, none⟩ = some (.map (some b)) := (blk_cell hg2.out 7).trans rfl; have HD2 := Aside0.mk (owns_keep hD0.out (HB2.out.block b bl)); obtain ⟨w9, hrun, hown, hgrow⟩ := World.ownsMap.update HD2.out law3 Try.underlying55 hcl.out hkey hval.out; have hN := Aside0.mk (pure_end hn.out HB2.out hD0.out hT.out hown hgrow); clear hown hgrow hb2)
  all_goals go_wp2
  all_goals refine bodyPost_ret (v := .bool false) (by simp [results, Try.results35, go_sem]) rfl ⟨rfl, hN.out⟩
set_option maxHeartbeats 8000000 in
set_option maxRecDepth 100000 in
theorem stepQ (g cnt : Nat) (a imm : Int) (is : Bool) (mb : Option Nat) (s : Sn) (x : S30) (A : Option Addr) (c : Nat) (h2 : wf x.f2) (w : World) (hn : IsNext w g cnt a imm is mb s) (hr : Kd.C (Kd.int .i64) w A x.f5.length x.f5) (hc : x.f5.length ≤ c) (h5 : (x.f0 == 5) = false) (hp : pureB x = true) (hmb : mb = none) (h1 : wf x.f1) :
    Calls Try.prog 35 #[.pointer (some ⟨g, 0, none⟩), opV x (.slice A x.f5.length c)] w fun e w' => e = .returned (.bool false) ∧ ∃ b, w.heap.size ≤ b ∧ IsNext w' g 1 a imm is (some b) (add s (setsI x)) ∧ Frame w w' g none := by
  have hP : ∀ W, Below w.heap.size w W → Calls Try.prog 32 #[.agg #[.int .i64 x.f0, .int .i64 x.f1, .int .i64 x.f2, .int .i64 x.f3, .int .i64 x.f4, .slice A x.f5.length c]] W fun e w' => e = .returned (.bool (pureB x)) ∧ Below W.heap.size W w' := fun W hb => code_Pure.calls 12 x.f0 x.f1 x.f2 x.f3 x.f4 A c x.f5 (pureB x) W (Kd.C_below hr hb) hc (pure_some x)
  rw [hp] at hP
  have hS : ∀ W, Kd.C (Kd.int .i64) W A x.f5.length x.f5 → Calls Try.prog 31 #[.agg #[.int .i64 x.f0, .int .i64 x.f1, .int .i64 x.f2, .int .i64 x.f3, .int .i64 x.f4, .slice A x.f5.length c]] W fun e w' => e = .returned (.int .i64 (setsI x)) ∧ Below W.heap.size W w' := fun W hr => code_Sets.calls 9 x.f0 x.f1 x.f2 x.f3 x.f4 A c x.f5 (setsI x) W hr hc (sets_some x)
  subst hmb
  have hmn := fun W => run_eql_map_nil (P := Try.prog) W 55 3 4 none Try.underlying55
  rw [show (none : Option Nat).isNone = true from rfl] at hmn
  have hd : wf (setsI x) := by unfold setsI; split; (· exact wf_zero); (· exact h1)
  have hkey := key3 hd
  have hcl := Aside0.mk (show 0 < maxLen by decide)
  have hval := Aside0.mk (plainElem_bool (H := Unit) Try.underlying4 true)
  replace hr := Aside0.mk hr
  have hmm := @run_makeMap Try.prog
  obtain ⟨k0, k1, k3, v5, hg0⟩ := hn.ex
  have gl : g < w.heap.size := blk_lt hg0
  unfold opV
  go_enter Try.func35, Try.ntmps35
  obtain ⟨o, ho⟩ : ∃ o : Obj, o = .cells #[.int .i64 x.f0, .int .i64 x.f1, .int .i64 x.f2, .int .i64 x.f3, .int .i64 x.f4, .slice A x.f5.length c] 30 := ⟨_, rfl⟩
  have HB : Aside0 (Below w.heap.size w (w.alloc o)) := Aside0.mk ((Below.refl _ _).alloc (Nat.le_refl _) o)
  have hx : (w.alloc o).heap[w.heap.size]? = some o := blk_new w o
  have hg := blk_alloc hg0 o
  have hz : (w.alloc o).heap.size = w.heap.size + 1 := World.size_alloc _ _
  subst ho
  replace hn := Aside0.mk hn
  replace hx := Aside0.mk hx
  replace hg := Aside0.mk hg
  have hP' := hP _ HB.out
  go_wp2_with (go_at_call 32; refine (hP _ ?hb).mono ?_; (case hb => exact HB.out); rintro e w1 ⟨rfl, hb1⟩; have hx1 := Aside0.mk ((hb1.block w.heap.size (by rw [hz]; omega)).trans hx.out); have hg1 := Aside0.mk ((hb1.block g (by rw [hz]; omega)).trans hg.out); have HB1 := Aside0.mk (HB.out.trans (hb1.mono HB.out.size)); have hz1 : w.heap.size + 1 ≤ w1.heap.size := (by have := hb1.size; rw [hz] at this; exact this); have gl1 : g < w1.heap.size := (by omega); have z0 : w1.cell? ⟨w.heap.size, 0, none⟩ = some (.int .i64 x.f0) := (blk_cell hx1.out 0).trans rfl; have z1 : w1.cell? ⟨w.heap.size, 1, none⟩ = some (.int .i64 x.f1) := (blk_cell hx1.out 1).trans rfl; have z2 : w1.cell? ⟨w.heap.size, 2, none⟩ = some (.int .i64 x.f2) := (blk_cell hx1.out 2).trans rfl; have z3 : w1.cell? ⟨w.heap.size, 3, none⟩ = some (.int .i64 x.f3) := (blk_cell hx1.out 3).trans rfl; have z4 : w1.cell? ⟨w.heap.size, 4, none⟩ = some (.int .i64 x.f4) := (blk_cell hx1.out 4).trans rfl; have z5 : w1.cell? ⟨w.heap.size, 5, none⟩ = some (.slice A x.f5.length c) := (blk_cell hx1.out 5).trans rfl; have p0 : w1.cell? ⟨g, 0, none⟩ = some (.int .i64 k0) := (blk_cell hg1.out 0).trans rfl; have p1 : w1.cell? ⟨g, 1, none⟩ = some (.int .i64 k1) := (blk_cell hg1.out 1).trans rfl; have p2 : w1.cell? ⟨g, 2, none⟩ = some (.int .i64 a) := (blk_cell hg1.out 2).trans rfl; have p3 : w1.cell? ⟨g, 3, none⟩ = some (.int .i64 k3) := (blk_cell hg1.out 3).trans rfl; have p4 : w1.cell? ⟨g, 4, none⟩ = some (.int .i64 imm) := (blk_cell hg1.out 4).trans rfl; have p5 : w1.cell? ⟨g, 5, none⟩ = some v5 := (blk_cell hg1.out 5).trans rfl; have p6 : w1.cell? ⟨g, 6, none⟩ = some (.bool is) := (blk_cell hg1.out 6).trans rfl; have p7 : w1.cell? ⟨g, 7, none⟩ = some (.map none) := (blk_cell hg1.out 7).trans rfl; have f0 : w1.frozen? ⟨g, 0, none⟩ = false := blk_frozen hg1.out 0; have f1 : w1.frozen? ⟨g, 1, none⟩ = false := blk_frozen hg1.out 1; have f2 : w1.frozen? ⟨g, 2, none⟩ = false := blk_frozen hg1.out 2; have f3 : w1.frozen? ⟨g, 3, none⟩ = false := blk_frozen hg1.out 3; have f4 : w1.frozen? ⟨g, 4, none⟩ = false := blk_frozen hg1.out 4; have f5 : w1.frozen? ⟨g, 5, none⟩ = false := blk_frozen hg1.out 5; have f6 : w1.frozen? ⟨g, 6, none⟩ = false := blk_frozen hg1.out 6; have f7 : w1.frozen? ⟨g, 7, none⟩ = false := blk_frozen hg1.out 7; clear hb1)
  obtain ⟨hI, hF, hsz, hkk⟩ := nil_made hn.out HB1.out
  have hCW := ints_nil (u := .map (some w1.heap.size)) (o := .map #[] 0) hg1.out (Kd.C_below hr.out HB1.out)
  generalize (w1.setCell ⟨g, 7, none⟩ (.map (some w1.heap.size))).alloc (.map #[] 0) = W2 at *
  obtain ⟨D, hD0, hT⟩ := hI.yes _ rfl
  obtain ⟨j0, j1, j3, u5, hgW⟩ := hI.ex
  have gne : w.heap.size ≠ g := by omega
  have hxW := Aside0.mk ((hkk w.heap.size hz1 gne).trans hx1.out)
  replace hgW := Aside0.mk hgW
  replace hI := Aside0.mk hI
  replace hF := Aside0.mk hF
  replace hD0 := Aside0.mk hD0
  replace hT := Aside0.mk hT
  have HCW := Aside0.mk hCW
  have hz0 := Aside0.mk HB1.out.size
  clear hCW hkk
  have d0 : W2.cell? ⟨w.heap.size, 0, none⟩ = some (.int .i64 x.f0) := (blk_cell hxW.out 0).trans rfl
  have d1 : W2.cell? ⟨w.heap.size, 1, none⟩ = some (.int .i64 x.f1) := (blk_cell hxW.out 1).trans rfl
  have d2 : W2.cell? ⟨w.heap.size, 2, none⟩ = some (.int .i64 x.f2) := (blk_cell hxW.out 2).trans rfl
  have d3 : W2.cell? ⟨w.heap.size, 3, none⟩ = some (.int .i64 x.f3) := (blk_cell hxW.out 3).trans rfl
  have d4 : W2.cell? ⟨w.heap.size, 4, none⟩ = some (.int .i64 x.f4) := (blk_cell hxW.out 4).trans rfl
  have d5 : W2.cell? ⟨w.heap.size, 5, none⟩ = some (.slice A x.f5.length c) := (blk_cell hxW.out 5).trans rfl
  have d7 : W2.cell? ⟨g, 7, none⟩ = some (.map (some w1.heap.size)) := (blk_cell hgW.out 7).trans rfl
  go_region_with (go_at_call 31; (with_reducible refine (hS _ ?hb).mono ?_); (case hb => exact Kd.C_below HCW.out (((Below.refl _ W2).drew)));  rintro e w2 ⟨rfl, hb2⟩; have hx2 := Aside0.mk ((hb2.block w.heap.size (by show _ < W2.heap.size; omega)).trans hxW.out); have hg2 := Aside0.mk ((hb2.block g (by show _ < W2.heap.size; omega)).trans hgW.out); have HB2 : Aside0 (Below W2.heap.size W2 w2) := Aside0.mk ⟨hb2.os, hb2.tape, hb2.output, hb2.size, hb2.block⟩; have t0 : w2.cell? ⟨w.heap.size, 0, none⟩ = some (.int .i64 x.f0) := (blk_cell hx2.out 0).trans rfl; have t1 : w2.cell? ⟨w.heap.size, 1, none⟩ = some (.int .i64 x.f1) := (blk_cell hx2.out 1).trans rfl; have t2 : w2.cell? ⟨w.heap.size, 2, none⟩ = some (.int .i64 x.f2) := (blk_cell hx2.out 2).trans rfl; have t3 : w2.cell? ⟨w.heap.size, 3, none⟩ = some (.int .i64 x.f3) := (blk_cell hx2.out 3).trans rfl; have t4 : w2.cell? ⟨w.heap.size, 4, none⟩ = some (.int .i64 x.f4) := (blk_cell hx2.out 4).trans rfl; have t5 : w2.cell? ⟨w.heap.size, 5, none⟩ = some (.slice A x.f5.length c) := (blk_cell hx2.out 5).trans rfl; have r7 : w2.cell? ⟨g, 7, none⟩ = some (.map (some w1.heap.size)) := (blk_cell hg2.out 7).trans rfl; have HD2 := Aside0.mk (owns_keep hD0.out (HB2.out.block w1.heap.size (by omega))); obtain ⟨w9, hrun, hown, hgrow⟩ := World.ownsMap.update HD2.out law3 Try.underlying55 hcl.out hkey hval.out; have hN := Aside0.mk (pure_end hI.out HB2.out hD0.out hT.out hown hgrow); clear hown hgrow hb2)
  all_goals go_wp2
  all_goals refine bodyPost_ret (v := .bool false) (by simp [results, Try.results35, go_sem]) rfl ⟨rfl, w1.heap.size, hz0.out, hN.out.1, frame_nil hF.out hN.out.2 hz0.out⟩
/-- The state behind a step: what the last store was, is it one, and the registers that were set. -/
structure St where
  a : Int
  imm : Int
  is : Bool
  s : Sn
def stepP (t : St) (x : S30) : St :=
  if (x.f0 == 5) = true then ⟨x.f2, x.f4, true, fun _ => false⟩
  else if pureB x = true then ⟨t.a, t.imm, t.is, add t.s (setsI x)⟩
  else ⟨t.a, t.imm, false, t.s⟩
def deadP (t : St) (x : S30) : Bool := (x.f0 == 5) && (t.is && (t.a == x.f2) && (t.imm == x.f4) && !(t.s x.f2))
/-- One step: what it answers, the state behind it, what lies as it lay. -/
theorem step_any (g cnt : Nat) (t : St) (mb : Option Nat) (x : S30) (A : Option Addr) (c : Nat) (hw : WfOp x) (w : World) (hn : IsNext w g cnt t.a t.imm t.is mb t.s) (hr : Kd.C (Kd.int .i64) w A x.f5.length x.f5) (hc : x.f5.length ≤ c) (hcnt : cnt < maxLen) :
    Calls Try.prog 35 #[.pointer (some ⟨g, 0, none⟩), opV x (.slice A x.f5.length c)] w fun e w' => e = .returned (.bool (deadP t x)) ∧
      ∃ mb', (mb' = mb ∨ ∃ b, mb' = some b ∧ w.heap.size ≤ b) ∧ IsNext w' g (cnt + 1) (stepP t x).a (stepP t x).imm (stepP t x).is mb' (stepP t x).s ∧ Frame w w' g mb := by
  have mono : ∀ {w' : World} {c1 c2 : Nat} {a imm : Int} {is : Bool} {mb : Option Nat} {s : Sn}, c1 ≤ c2 → IsNext w' g c1 a imm is mb s → IsNext w' g c2 a imm is mb s := fun h k => ⟨k.ex, k.no, fun b hb => (k.yes b hb).mono h⟩
  unfold stepP deadP
  rcases Bool.eq_false_or_eq_true (x.f0 == 5) with h5 | h5
  · rw [if_pos h5, h5, Bool.true_and]
    have fin : ∀ (r : Bool) (e : Ending) (w' : World), (e = .returned (.bool r) ∧ IsNext w' g 0 x.f2 x.f4 true (some (w.heap.size + 1)) (fun _ => false) ∧ Frame w w' g mb) → (e = .returned (.bool r) ∧
      ∃ mb', (mb' = mb ∨ ∃ b, mb' = some b ∧ w.heap.size ≤ b) ∧ IsNext w' g (cnt + 1) x.f2 x.f4 true mb' (fun _ => false) ∧ Frame w w' g mb) := fun r e w' ⟨h1, h2, h3⟩ => ⟨h1, _, .inr ⟨_, rfl, by omega⟩, mono (Nat.zero_le _) h2, h3⟩
    rcases Bool.eq_false_or_eq_true t.is with his | his
    · rcases Bool.eq_false_or_eq_true (t.a == x.f2) with ha | ha
      · rcases Bool.eq_false_or_eq_true (t.imm == x.f4) with hi | hi
        · rcases Bool.eq_false_or_eq_true (t.s x.f2) with hs | hs
          · refine (stepS4 g cnt t.a t.imm t.is mb t.s x A c hw.h2 w hn h5 his ha hi hs).mono fun e w' h => ?_
            rw [his, ha, hi, hs]; exact fin _ e w' h
          · refine (stepS5 g cnt t.a t.imm t.is mb t.s x A c hw.h2 w hn h5 his ha hi hs).mono fun e w' h => ?_
            rw [his, ha, hi, hs]; exact fin _ e w' h
        · refine (stepS3 g cnt t.a t.imm t.is mb t.s x A c hw.h2 w hn h5 his ha hi).mono fun e w' h => ?_
          rw [his, ha, hi]; exact fin _ e w' h
      · refine (stepS2 g cnt t.a t.imm t.is mb t.s x A c hw.h2 w hn h5 his ha).mono fun e w' h => ?_
        rw [his, ha]; exact fin _ e w' h
    · refine (stepS1 g cnt t.a t.imm t.is mb t.s x A c hw.h2 w hn h5 his).mono fun e w' h => ?_
      rw [his]; exact fin _ e w' h
  · rw [if_neg (by simp [h5]), h5, Bool.false_and]
    rcases Bool.eq_false_or_eq_true (pureB x) with hp | hp
    · rw [if_pos hp]
      cases hmb : mb with
      | none => exact (stepQ g cnt t.a t.imm t.is mb t.s x A c hw.h2 w hn hr hc h5 hp hmb hw.h1).mono fun e w' ⟨h1, b, h2, h3, h4⟩ => ⟨h1, some b, .inr ⟨b, rfl, h2⟩, mono (by omega) h3, h4⟩
      | some b => exact (stepW g cnt t.a t.imm t.is mb t.s x A c hw.h2 w hn hr hc h5 hp b hmb hcnt hw.h1).mono fun e w' ⟨h1, h2, h3⟩ => ⟨h1, some b, .inl rfl, h2, h3⟩
    · rw [if_neg (by simp [hp])]
      exact (stepN g cnt t.a t.imm t.is mb t.s x A c hw.h2 w hn hr hc h5 hp).mono fun e w' ⟨h1, h2, h3⟩ => ⟨h1, mb, .inl rfl, mono (Nat.le_succ _) h2, h3⟩
end Go.Proofs.Ytmacdhkfgoahcaa.De

