/- Contracts, walked by hand: New, Copy. -/
import Derived.Test.YtnanjbhdledilaaMemB
import Derived.Laws.MakeOwn
import Derived.RegionTactic
import Derived.ChangeAlike
import Derived.BigRegion
set_option linter.unusedVariables false
set_option linter.unusedSimpArgs false
namespace Go.Proofs.Ytnanjbhdledilaa.Mem
open Go Go.RowKit Go.Proofs.YtnanjbhdledilaaW.PrintWords Go.Proofs.YtnanjbhdledilaaW.PrintLast Go.Proofs.YtnanjbhdledilaaW.PrintMore
theorem info3 : (Try.prog.info? 3).map (fun i => (i.zero, i.size, i.bytes)) = some (some (.int .i64 0), 1, 8) := by kernel_rfl
/-- make([]int, n): where it leads. -/
theorem make_to (w : World) (a : Int) (h0 : 0 ≤ a) (h1 : a ≤ 1048576) :
    ∃ W, (Instr.makeSlice 38 (.int .i64 a) (.int .i64 a)).run Try.prog w = .ok (.slice (some ⟨w.heap.size, 0, none⟩) a.toNat a.toNat) W ∧ W.heap.size = w.heap.size + 1 ∧ Below w.heap.size w W ∧
      (∀ i, i < a.toNat → W.cell? ⟨w.heap.size, i, none⟩ = some (.int .i64 0)) ∧ ∀ i, W.frozen? ⟨w.heap.size, i, none⟩ = false := by
  obtain ⟨i, hi, hz, hs, hb⟩ := info_parts info3
  have hr := run_make (P := Try.prog) w 38 3 i (.int .i64 0) (by kernel_rfl) hi hz .i64 .i64 a a h0 (Int.le_refl _) (by rw [hb]; omega) (by omega)
  rw [hs, Nat.mul_one] at hr
  refine ⟨_, hr, by simp, (Below.refl _ _).alloc (Nat.le_refl _) _, ?_, ?_⟩
  · intro i hi
    have e := heap_alloc_new w (.cells (madeCells (Value.int .i64 0).cells a.toNat) 3)
    simp only [World.cell?, e]
    have : (madeCells (Value.int .i64 0).cells a.toNat).toList = List.replicate a.toNat (.int .i64 0) := toList_madeCells_one _ _
    simp [← Array.getElem?_toList, this, hi]
  · intro i
    have e := heap_alloc_new w (.cells (madeCells (Value.int .i64 0).cells a.toNat) 3)
    simp only [World.frozen?, e]; simp
def Mem.new (n : Nat) : Mem := ⟨n, fun _ => 0, 1, n⟩
theorem isMem_made {W : World} {b : Nat} (n h f : Nat) (hs : W.heap.size = b + 1) (hc : ∀ i, i < n → W.cell? ⟨b, i, none⟩ = some (.int .i64 0)) (hf : ∀ i, W.frozen? ⟨b, i, none⟩ = false) :
    IsMem (W.alloc (.cells #[.slice (some ⟨b, 0, none⟩) n n, .int .i64 h, .int .i64 f] 48)) (b + 1) b ⟨n, fun _ => 0, h, f⟩ := by
  have e := heap_alloc_new W (.cells #[.slice (some ⟨b, 0, none⟩) n n, .int .i64 h, .int .i64 f] 48)
  rw [hs] at e
  have hB : (W.alloc (.cells #[.slice (some ⟨b, 0, none⟩) n n, .int .i64 h, .int .i64 f] 48)).heap[b]? = W.heap[b]? :=
    ((Below.refl W.heap.size W).alloc (Nat.le_refl _) _).block _ (by omega)
  refine ⟨by omega, ?_, ?_, ?_, fun i => by simp only [World.frozen?, e]; simp, fun i => (frozen_same hB i).trans (hf i), fun i hi => (cell_same hB i).trans (hc i hi)⟩
  · simp [World.cell?, e]
  · simp [World.cell?, e]
  · simp [World.cell?, e]
theorem isMem_new {w0 W : World} {a : Int} (h0 : 1 ≤ a) (hs : W.heap.size = w0.heap.size + 1) (hc : ∀ i, i < a.toNat → W.cell? ⟨w0.heap.size, i, none⟩ = some (.int .i64 0)) (hf : ∀ i, W.frozen? ⟨w0.heap.size, i, none⟩ = false) :
    IsMem (W.alloc (.cells #[.slice (some ⟨w0.heap.size, 0, none⟩) a.toNat a.toNat, .int .i64 1, .int .i64 a] 48)) (w0.heap.size + 1) w0.heap.size (Mem.new a.toNat) := by
  have ea : ((a.toNat : Nat) : Int) = a := by omega
  have := isMem_made a.toNat 1 a.toNat hs hc hf
  rw [ea] at this
  exact this
theorem IsMem.cells {w : World} {g B : Nat} {M : Mem} (h : IsMem w g B M) (c' : Nat → Int) : IsMem (w.setCells B 0 ((List.range M.n).map fun i => .int .i64 (c' i))) g B { M with c := c' } := by
  have hne := h.ne
  have hg : (w.setCells B 0 ((List.range M.n).map fun i => Value.int .i64 (c' i))).heap[g]? = w.heap[g]? := (Only.setCells B B B (.inl rfl) _ 0 w).block g hne hne
  refine ⟨hne, (cell_same hg 0).trans h.c0, (cell_same hg 1).trans h.c1, (cell_same hg 2).trans h.c2, fun i => (frozen_same hg i).trans (h.fg i), fun i => by rw [World.frozen?_setCells]; exact h.fB i, fun i hi => ?_⟩
  have hin := World.cell?_setCells_in B ((List.range M.n).map fun i => Value.int .i64 (c' i)) 0 w (fun j hj => by
    rw [List.length_map, List.length_range] at hj
    rw [Nat.zero_add, h.cs j hj]; rfl) i (by rw [List.length_map, List.length_range]; exact hi)
  rw [Nat.zero_add] at hin
  rw [hin]; simp
theorem new_any (a : Int) (w : World) : Calls Try.prog 8 #[.int .i64 a] w fun e w' => if 1 ≤ a ∧ a ≤ 1048576 then
      e = .returned (.tuple #[.pointer (some ⟨w.heap.size + 1, 0, none⟩), .int .i64 0]) ∧ IsMem w' (w.heap.size + 1) w.heap.size (Mem.new a.toNat) ∧ Below w.heap.size w w' ∧ w'.heap.size = w.heap.size + 2
    else e = .returned (.tuple #[.pointer none, .int .i64 1]) ∧ w = w' := by
  by_cases h1 : a < 1
  · have d1 : decide (a < 1) = true := decide_eq_true h1
    have hn : ¬ (1 ≤ a ∧ a ≤ 1048576) := by omega
    simp only [if_neg hn]
    clear hn
    clear h1
    go_enter Try.func8, Try.ntmps8
    go_wp2
    go_ret2
    exact ⟨rfl, rfl⟩
  have d1 : decide (a < 1) = false := decide_eq_false h1
  by_cases h2 : 1048576 < a
  · have d2 : decide (1048576 < a) = true := decide_eq_true h2
    have hn : ¬ (1 ≤ a ∧ a ≤ 1048576) := by omega
    simp only [if_neg hn]
    clear hn
    clear h1 h2
    go_enter Try.func8, Try.ntmps8
    go_wp2
    go_ret2
    exact ⟨rfl, rfl⟩
  have d2 : decide (1048576 < a) = false := decide_eq_false h2
  have hn : 1 ≤ a ∧ a ≤ 1048576 := by omega
  simp only [if_pos hn]
  clear hn
  obtain ⟨W, hmk, hs, hb, hc, hf⟩ := make_to w a (by omega) (by omega)
  have P := Aside0.mk (isMem_new (by omega : 1 ≤ a) hs hc hf)
  have hB := Aside0.mk (hb.alloc hb.size (.cells #[.slice (some ⟨w.heap.size, 0, none⟩) a.toNat a.toNat, .int .i64 1, .int .i64 a] 48))
  have hS := Aside0.mk hs
  clear h1 h2 hb hc hf
  go_enter Try.func8, Try.ntmps8
  go_wp2
  go_ret2
  exact ⟨by rfl, P.out, hB.out, by simp [hS.out]⟩
theorem IsMem.lt {w : World} {g B : Nat} {M : Mem} (h : IsMem w g B M) : g < w.heap.size := by
  have := World.block_lt_of_cell? _ _ h.c0
  exact this
theorem IsMem.ltB {w : World} {g B : Nat} {M : Mem} (h : IsMem w g B M) (hn : 0 < M.n) : B < w.heap.size := by
  have := World.block_lt_of_cell? _ _ (h.cs 0 hn)
  exact this
set_option maxHeartbeats 4000000 in
theorem copy_any (g B : Nat) (M : Mem) (ok : M.Ok) (w : World) (hI : IsMem w g B M) : Calls Try.prog 18 #[.pointer (some ⟨g, 0, none⟩)] w fun e w' =>
    ∃ g' B', e = .returned (.pointer (some ⟨g', 0, none⟩)) ∧ IsMem w' g' B' M ∧ Below w.heap.size w w' ∧ w.heap.size ≤ g' ∧ w.heap.size ≤ B' := by
  have c0 := hI.c0
  have c1 := hI.c1
  have c2 := hI.c2
  have o0 : 1 ≤ M.n := by have := ok.h1; have := ok.hf; have := ok.fn; omega
  have o4 := ok.nm
  obtain ⟨W, hmk, hs, hb, hc, hf⟩ := make_to w.drew (M.n : Int) (by omega) (by omega)
  have hs' : W.heap.size = w.heap.size + 1 := hs
  have hb' : Below w.heap.size w W := ⟨hb.os, hb.tape, hb.output, hb.size, hb.block⟩
  have hg := hI.lt
  have hIW : IsMem W g B M := hI.keep (hb'.block _ hg) (hb'.block _ (hI.ltB (by omega)))
  have e0 := hIW.c0
  have e1 := hIW.c1
  have e2 := hIW.c2
  replace hI := Aside0.mk hI
  replace hIW := Aside0.mk hIW
  replace hb := Aside0.mk hb'
  replace hs := Aside0.mk hs'
  replace hc := Aside0.mk hc
  replace hf := Aside0.mk hf
  clear hs' hb' hg
  replace ok := Aside0.mk o0
  clear o0
  go_enter Try.func18, Try.ntmps18
  go_wp2
  go_region
  have P := isMem_made (b := w.heap.size) M.n M.h M.f hs.out hc.out hf.out
  have hW2 : IsMem (W.alloc (.cells #[.slice (some ⟨w.heap.size, 0, none⟩) M.n M.n, .int .i64 M.h, .int .i64 M.f] 48)) g B M := by
    have hbl := (Below.refl W.heap.size W).alloc (Nat.le_refl _) (.cells #[.slice (some ⟨w.heap.size, 0, none⟩) M.n M.n, .int .i64 M.h, .int .i64 M.f] 48)
    exact hIW.out.keep (hbl.block _ hIW.out.lt) (hbl.block _ (hIW.out.ltB (by have := ok.out; omega)))
  have hB2 := hb.out.alloc hb.out.size (.cells #[.slice (some ⟨w.heap.size, 0, none⟩) M.n M.n, .int .i64 M.h, .int .i64 M.f] 48)
  have hWs := hs.out
  rw [hWs]
  generalize W.alloc (.cells #[.slice (some ⟨w.heap.size, 0, none⟩) M.n M.n, .int .i64 M.h, .int .i64 M.f] 48) = W2 at *
  obtain ⟨W3, hcp, P3, hB3⟩ : ∃ W3, (∀ ty, (Builtin.copy_ #[38, 38] ty #[.slice (some ⟨w.heap.size, 0, none⟩) M.n M.n, .slice (some ⟨B, 0, none⟩) M.n M.n]).run Try.prog W2.drew = .ok (goInt M.n) W3) ∧
      IsMem W3 (w.heap.size + 1) w.heap.size M ∧ Below w.heap.size w W3 := by
    have hn : ((List.range M.n).map fun i => Value.int .i64 (M.c i)).length = M.n := by rw [List.length_map, List.length_range]
    refine ⟨_, fun ty => ?_, P.drew.cells M.c, ?_⟩
    · have := run_copy_cells (P := Try.prog) W2.drew 38 38 ty 3 w.heap.size 0 M.n M.n ⟨B, 0, none⟩ M.n M.n ((List.range M.n).map fun i => Value.int .i64 (M.c i)) (by kernel_rfl) (by kernel_rfl) (by rw [hn]; simp) ?_ ?_ ?_ ?_
      · rw [hn] at this; exact this
      · intro j v hj
        have hjl : j < M.n := by have := (List.getElem?_eq_some_iff.1 hj).1; rwa [hn] at this
        have e : v = .int .i64 (M.c j) := by simp [hjl] at hj; exact hj.symm
        have hc := hW2.drew.cs j hjl
        rw [e]
        show W2.drew.cell? ((⟨B, 0, none⟩ : Addr).add j) = _
        have ea : (⟨B, 0, none⟩ : Addr).add j = ⟨B, j, none⟩ := by
          by_cases h0 : j = 0
          · subst h0; simp [Addr.add]
          · simp [Addr.add, h0]
        rw [ea]; exact hc
      · intro j hj
        rw [hn] at hj
        rw [Nat.zero_add, P.drew.cs j hj]; rfl
      · intro j hj; exact P.drew.fB _
      · intro v hv
        obtain ⟨i, _, rfl⟩ := List.mem_map.1 hv
        rfl
    · have o := (Only.drew (w.heap.size + 1) w.heap.size W2).trans (Only.setCells (w.heap.size + 1) w.heap.size w.heap.size (.inr rfl) ((List.range M.n).map fun i => Value.int .i64 (M.c i)) 0 W2.drew)
      exact o.below hB2 (by omega) (Nat.le_refl _)
  have e0' := P.c0
  have e0'' := hW2.c0
  replace P3 := Aside0.mk P3
  replace hB3 := Aside0.mk hB3
  clear P hW2 hB2 hWs c0 c1 c2 e0 e1 e2 hmk hI hIW hb hs hc hf
  go_wp2
  go_still_tail 8, (by kernel_rfl)
  change wpList _ _ _ _ _ W2.drew
  generalize W2.drew = w2 at *
  go_wp2
  go_ret
  exact ⟨_, _, rfl, P3.out, hB3.out, by omega, Nat.le_refl _⟩
end Go.Proofs.Ytnanjbhdledilaa.Mem
