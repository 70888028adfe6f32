/- Of the text DeS, what this law uses. -/
import Derived.Test.YtmacdhkfgoahcaaZqDeC
import Derived.Test.YtmacdhkfgoahcaaZqDeR
/- Contract: slices.Reverse over an own row of ints. -/
set_option linter.unusedVariables false
namespace Go.Proofs.Ytmacdhkfgoahcaa.De
open Go Go.RowKit Go.Sort Go.Proofs.YtmacdhkfgoahcaaW.PrintWords
theorem rev_any (v : Value) (l : List Int) (n₀ : Nat) (w : World) (h : w.ownsRow n₀ 3 1 v l.length (l.map (Value.int .i64))) :
    Calls Try.prog 36 #[v] w fun e w' => e = .returned (.tuple #[]) ∧ w'.ownsRow n₀ 3 1 v l.reverse.length (l.reverse.map (Value.int .i64)) ∧ w.grownBy w' v.ownBlock := by
  rcases h.2 with ⟨rfl, h0⟩ | ⟨g, cap, cur, rfl, hb, hg, hcap, hmax, hsz, htake⟩
  · obtain rfl : l = [] := List.length_eq_zero_iff.1 h0
    refine (Any.slices_Reverse_int_empty Try.revI none 0 w).mono ?_
    rintro e w' ⟨rfl, rfl⟩
    exact ⟨rfl, h, ⟨rfl, rfl, rfl, Nat.le_refl _, fun _ _ _ => rfl⟩⟩
  · have hc : ∀ j, (hj : j < l.length) → w.cell? ⟨g, j, none⟩ = some (.int .i64 l[j]) := fun j hj => by
      rw [blk_cell hg, ← Array.getElem?_toList]
      have := congrArg (fun z => z[j]?) htake
      simp only [Nat.mul_one, List.getElem?_take, if_pos hj, List.getElem?_map, List.getElem?_eq_getElem hj, Option.map_some] at this
      exact this
    have hH : Holds (Value.int .i64) w g 0 l.toArray := fun j hj => by
      rw [List.size_toArray] at hj
      rw [Nat.zero_add]
      refine ⟨(hc j hj).trans ?_, blk_frozen hg j⟩
      simp [hj]
    refine (Any.slices_Reverse_int Try.revI g 0 cap l w hH (by unfold maxLen at hmax; omega)).mono ?_
    rintro e w' ⟨rfl, n, rfl⟩
    have hlt := blk_lt hg
    have hh : ∀ k, (putRow (Value.int .i64) (Sort.ahead w n) g 0 l.reverse.toArray).heap[k]? = if k = g then some (.cells (putCells (Value.int .i64) 0 l.reverse.toArray cur) 3 (0, 0)) else w.heap[k]? := fun k => by
      show (w.heap.modify g (onCells (putCells (Value.int .i64) 0 l.reverse.toArray)))[k]? = _
      rw [Array.getElem?_modify]
      by_cases hk : k = g
      · subst hk; rw [if_pos rfl, if_pos rfl, hg]; rfl
      · rw [if_neg hk, if_neg (fun e => hk e.symm)]
    refine ⟨rfl, ⟨by simp, .inr ⟨g, cap, putCells (Value.int .i64) 0 l.reverse.toArray cur, by rw [List.length_reverse], hb, by rw [hh, if_pos rfl], by rw [List.length_reverse]; exact hcap, hmax, by unfold putCells; rw [Array.size_mapIdx]; exact hsz, ?_⟩⟩, ⟨rfl, rfl, rfl, ?_, fun k _ hk => ?_⟩⟩
    · refine List.ext_getElem? fun j => ?_
      rw [List.getElem?_take, List.length_reverse, Nat.mul_one]
      split
      next hj =>
        have hjc : j < cur.size := by omega
        rw [Array.getElem?_toList]
        unfold putCells
        rw [Array.getElem?_mapIdx, Array.getElem?_eq_getElem hjc, List.getElem?_map, List.getElem?_eq_getElem (by rw [List.length_reverse]; exact hj)]
        simp [hj]
      next hj => rw [List.getElem?_eq_none (by rw [List.length_map, List.length_reverse]; omega)]
    · show w.heap.size ≤ (w.heap.modify g _).size
      rw [Array.size_modify]; exact Nat.le_refl _
    · rw [hh, if_neg (fun e => hk (by rw [e]; rfl))]
end Go.Proofs.Ytmacdhkfgoahcaa.De

