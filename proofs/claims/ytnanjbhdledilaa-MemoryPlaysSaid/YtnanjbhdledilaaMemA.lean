/- A memory of the program, abstractly: how many cells, what they hold, the heap's end, the stack's end. -/
import Derived.BigQuiet
import Derived.RowKit
import Derived.Laws.IdiomCopy
import Derived.Lib.SliceRun
import Derived.StillTailTactics
import Derived.Test.YtnanjbhdledilaaWMore
import Derived.Test.YtnanjbhdledilaaProg
set_option linter.unusedVariables false
set_option linter.unusedSimpArgs false
namespace Go.Proofs.Ytnanjbhdledilaa.Mem
open Go Go.RowKit Go.Proofs.YtnanjbhdledilaaW.PrintWords Go.Proofs.YtnanjbhdledilaaW.PrintLast Go.Proofs.YtnanjbhdledilaaW.PrintMore
structure Mem where
  n : Nat
  c : Nat → Int
  h : Nat
  f : Nat
structure Mem.Ok (M : Mem) : Prop where
  h1 : 1 ≤ M.h
  hf : M.h ≤ M.f
  fn : M.f ≤ M.n
  nm : M.n ≤ 1048576
structure IsMem (w : World) (g B : Nat) (M : Mem) : Prop where
  ne : g ≠ B
  c0 : w.cell? ⟨g, 0, none⟩ = some (.slice (some ⟨B, 0, none⟩) M.n M.n)
  c1 : w.cell? ⟨g, 1, none⟩ = some (.int .i64 M.h)
  c2 : w.cell? ⟨g, 2, none⟩ = some (.int .i64 M.f)
  fg : ∀ i, w.frozen? ⟨g, i, none⟩ = false
  fB : ∀ i, w.frozen? ⟨B, i, none⟩ = false
  cs : ∀ i, i < M.n → w.cell? ⟨B, i, none⟩ = some (.int .i64 (M.c i))
/-- Only the memory's two blocks turn. -/
structure Only (g B : Nat) (w w' : World) : Prop where
  os : w'.os = w.os
  tape : w'.tape = w.tape
  output : w'.output = w.output
  size : w'.heap.size = w.heap.size
  block : ∀ k, k ≠ g → k ≠ B → w'.heap[k]? = w.heap[k]?
theorem Only.refl (g B : Nat) (w : World) : Only g B w w := ⟨rfl, rfl, rfl, rfl, fun _ _ _ => rfl⟩
theorem Only.trans {g B : Nat} {a b c : World} (h : Only g B a b) (k : Only g B b c) : Only g B a c :=
  ⟨k.os.trans h.os, k.tape.trans h.tape, k.output.trans h.output, k.size.trans h.size, fun i h1 h2 => (k.block i h1 h2).trans (h.block i h1 h2)⟩
theorem Only.below {g B base : Nat} {w0 w w' : World} (h : Only g B w w') (hb : Below base w0 w) (hg : base ≤ g) (hB : base ≤ B) : Below base w0 w' :=
  ⟨h.os.trans hb.os, h.tape.trans hb.tape, h.output.trans hb.output, by rw [h.size]; exact hb.size, fun k hk => (h.block k (by omega) (by omega)).trans (hb.block k hk)⟩
theorem Only.drew (g B : Nat) (w : World) : Only g B w w.drew := ⟨rfl, rfl, rfl, rfl, fun _ _ _ => rfl⟩
theorem Only.drewN (g B : Nat) (w : World) : ∀ n, Only g B w (w.drewN n) := fun n => ⟨rfl, rfl, rfl, rfl, fun _ _ _ => rfl⟩
theorem Only.setCell (g B : Nat) (w : World) (p : Addr) (u : Value) (hp : p.block = g ∨ p.block = B) : Only g B w (w.setCell p u) :=
  ⟨rfl, rfl, rfl, by simp [World.setCell], fun k h1 h2 => Below.heap_setCell w p u k (by rcases hp with h | h <;> rw [h] <;> assumption)⟩
theorem Only.setCells (g B : Nat) (b : Nat) (hb : b = g ∨ b = B) : ∀ (vs : List Value) (o : Nat) (w : World), Only g B w (w.setCells b o vs)
  | [], o, w => Only.refl g B w
  | v :: vs, o, w => (Only.setCell g B w ⟨b, o, none⟩ v hb).trans (Only.setCells g B b hb vs (o + 1) _)
theorem cell_same {w w' : World} {b : Nat} (h : w'.heap[b]? = w.heap[b]?) (i : Nat) : w'.cell? ⟨b, i, none⟩ = w.cell? ⟨b, i, none⟩ := by
  simp [World.cell?, h]
theorem frozen_same {w w' : World} {b : Nat} (h : w'.heap[b]? = w.heap[b]?) (i : Nat) : w'.frozen? ⟨b, i, none⟩ = w.frozen? ⟨b, i, none⟩ := by
  simp [World.frozen?, h]
theorem IsMem.keep {w w' : World} {g B : Nat} {M : Mem} (h : IsMem w g B M) (hg : w'.heap[g]? = w.heap[g]?) (hB : w'.heap[B]? = w.heap[B]?) : IsMem w' g B M :=
  ⟨h.ne, (cell_same hg 0).trans h.c0, (cell_same hg 1).trans h.c1, (cell_same hg 2).trans h.c2, fun i => (frozen_same hg i).trans (h.fg i), fun i => (frozen_same hB i).trans (h.fB i), fun i hi => (cell_same hB i).trans (h.cs i hi)⟩
def Mem.put (M : Mem) (at_ : Nat) (v : Int) : Mem := { M with c := fun i => if i = at_ then v else M.c i }
def Mem.zero (M : Mem) (a b : Nat) : Mem := { M with c := fun i => if a ≤ i ∧ i < b then 0 else M.c i }
theorem IsMem.put {w : World} {g B : Nat} {M : Mem} (h : IsMem w g B M) (k : Nat) (hk : k < M.n) (v : Int) : IsMem (w.setCell ⟨B, k, none⟩ (.int .i64 v)) g B (M.put k v) := by
  have hne := h.ne
  have hg := Below.heap_setCell w ⟨B, k, none⟩ (.int .i64 v) g hne
  refine ⟨hne, (cell_same hg 0).trans h.c0, (cell_same hg 1).trans h.c1, (cell_same hg 2).trans h.c2, fun i => (frozen_same hg i).trans (h.fg i), fun i => by rw [World.frozen?_setCell]; exact h.fB i, fun i hi => ?_⟩
  show _ = some (Value.int .i64 (if i = k then v else M.c i))
  by_cases e : i = k
  · subst e; rw [if_pos rfl]; exact World.cell?_setCell_same _ _ _ (h.cs i hk)
  · rw [if_neg e, World.cell?_setCell_other _ _ _ _ (fun hh => e (by injection hh with _ h2; exact h2.symm))]; exact h.cs i hi
theorem IsMem.zero {w : World} {g B : Nat} {M : Mem} (h : IsMem w g B M) (a n : Nat) (hn : a + n ≤ M.n) : IsMem (w.setCells B a (List.replicate n (.int .i64 0))) g B (M.zero a (a + n)) := by
  have hne := h.ne
  have hg : (w.setCells B a (List.replicate n (Value.int .i64 0))).heap[g]? = w.heap[g]? := by
    have : ∀ (vs : List Value) (o : Nat) (w : World), (w.setCells B o vs).heap[g]? = w.heap[g]? := by
      intro vs
      induction vs with
      | nil => intro o w; rfl
      | cons v vs ih => intro o w; rw [World.setCells, ih]; exact Below.heap_setCell w ⟨B, o, none⟩ v g hne
    exact this _ _ _
  refine ⟨hne, (cell_same hg 0).trans h.c0, (cell_same hg 1).trans h.c1, (cell_same hg 2).trans h.c2, fun i => (frozen_same hg i).trans (h.fg i), fun i => by rw [World.frozen?_setCells]; exact h.fB i, fun i hi => ?_⟩
  show _ = some (Value.int .i64 (if a ≤ i ∧ i < a + n then 0 else M.c i))
  by_cases e : a ≤ i ∧ i < a + n
  · rw [if_pos e]
    have hin := World.cell?_setCells_in B (List.replicate n (Value.int .i64 0)) a w (fun j hj => by
      rw [List.length_replicate] at hj
      rw [h.cs (a + j) (by omega)]; rfl) (i - a) (by rw [List.length_replicate]; omega)
    rw [show a + (i - a) = i from by omega] at hin
    rw [hin]; simp
  · rw [if_neg e, World.cell?_setCells_out B _ _ _ _ (fun _ _ => by simp; omega)]
    exact h.cs i hi
theorem IsMem.heap {w : World} {g B : Nat} {M : Mem} (h : IsMem w g B M) (x : Nat) : IsMem (w.setCell ⟨g, 1, none⟩ (.int .i64 x)) g B { M with h := x } := by
  have hne := h.ne
  have hB := Below.heap_setCell w ⟨g, 1, none⟩ (.int .i64 x) B (Ne.symm hne)
  refine ⟨hne, ?_, World.cell?_setCell_same _ _ _ h.c1, ?_, fun i => by rw [World.frozen?_setCell]; exact h.fg i, fun i => (frozen_same hB i).trans (h.fB i), fun i hi => (cell_same hB i).trans (h.cs i hi)⟩
  · rw [World.cell?_setCell_other _ _ _ _ (by simp)]; exact h.c0
  · rw [World.cell?_setCell_other _ _ _ _ (by simp)]; exact h.c2
theorem IsMem.floor {w : World} {g B : Nat} {M : Mem} (h : IsMem w g B M) (x : Nat) : IsMem (w.setCell ⟨g, 2, none⟩ (.int .i64 x)) g B { M with f := x } := by
  have hne := h.ne
  have hB := Below.heap_setCell w ⟨g, 2, none⟩ (.int .i64 x) B (Ne.symm hne)
  refine ⟨hne, ?_, ?_, World.cell?_setCell_same _ _ _ h.c2, fun i => by rw [World.frozen?_setCell]; exact h.fg i, fun i => (frozen_same hB i).trans (h.fB i), fun i hi => (cell_same hB i).trans (h.cs i hi)⟩
  · rw [World.cell?_setCell_other _ _ _ _ (by simp)]; exact h.c0
  · rw [World.cell?_setCell_other _ _ _ _ (by simp)]; exact h.c1
theorem IsMem.drewN {w : World} {g B : Nat} {M : Mem} (h : IsMem w g B M) (n : Nat) : IsMem (w.drewN n) g B M := h.keep rfl rfl
theorem IsMem.drew {w : World} {g B : Nat} {M : Mem} (h : IsMem w g B M) : IsMem w.drew g B M := h.keep rfl rfl
/-- Is a cell? -/
def Mem.there (M : Mem) (a : Int) : Bool := decide (1 ≤ a ∧ a < (M.h : Int) ∨ (M.f : Int) ≤ a ∧ a < (M.n : Int))
theorem there_any (g B : Nat) (M : Mem) (a : Int) (w : World) (hI : IsMem w g B M) : Calls Try.prog 23 #[.pointer (some ⟨g, 0, none⟩), .int .i64 a] w fun e w' => e = .returned (.bool (M.there a)) ∧ w = w' := by
  have c0 := hI.c0
  have c1 := hI.c1
  have c2 := hI.c2
  clear hI
  by_cases h1 : (1 : Int) ≤ a
  · have d1 : decide ((1 : Int) ≤ a) = true := decide_eq_true h1
    by_cases h2 : a < (M.h : Int)
    · have d2 : decide (a < (M.h : Int)) = true := decide_eq_true h2
      have hr : M.there a = true := decide_eq_true (.inl ⟨h1, h2⟩)
      rw [hr]
      clear h1 h2
      go_enter Try.func23, Try.ntmps23
      go_wp2
      go_ret
      exact ⟨rfl, rfl⟩
    · have d2 : decide (a < (M.h : Int)) = false := decide_eq_false h2
      by_cases h3 : (M.f : Int) ≤ a
      · have d3 : decide ((M.f : Int) ≤ a) = true := decide_eq_true h3
        have hr : M.there a = decide (a < (M.n : Int)) := by unfold Mem.there; rw [decide_eq_decide]; omega
        rw [hr]
        clear h1 h2 h3
        go_enter Try.func23, Try.ntmps23
        go_wp2
        go_ret
        exact ⟨rfl, rfl⟩
      · have d3 : decide ((M.f : Int) ≤ a) = false := decide_eq_false h3
        have hr : M.there a = false := decide_eq_false (by omega)
        rw [hr]
        clear h1 h2 h3
        go_enter Try.func23, Try.ntmps23
        go_wp2
        go_ret
        exact ⟨rfl, rfl⟩
  · have d1 : decide ((1 : Int) ≤ a) = false := decide_eq_false h1
    by_cases h3 : (M.f : Int) ≤ a
    · have d3 : decide ((M.f : Int) ≤ a) = true := decide_eq_true h3
      have hr : M.there a = decide (a < (M.n : Int)) := by unfold Mem.there; rw [decide_eq_decide]; omega
      rw [hr]
      clear h1 h3
      go_enter Try.func23, Try.ntmps23
      go_wp2
      go_ret
      exact ⟨rfl, rfl⟩
    · have d3 : decide ((M.f : Int) ≤ a) = false := decide_eq_false h3
      have hr : M.there a = false := decide_eq_false (by omega)
      rw [hr]
      clear h1 h3
      go_enter Try.func23, Try.ntmps23
      go_wp2
      go_ret
      exact ⟨rfl, rfl⟩
theorem heap_any (g B : Nat) (M : Mem) (w : World) (hI : IsMem w g B M) : Calls Try.prog 11 #[.pointer (some ⟨g, 0, none⟩)] w fun e w' => e = .returned (.int .i64 M.h) ∧ w = w' := by
  have c1 := hI.c1
  clear hI
  go_enter Try.func11, Try.ntmps11
  go_wp2
  go_ret
  exact ⟨rfl, rfl⟩
theorem floor_any (g B : Nat) (M : Mem) (w : World) (hI : IsMem w g B M) : Calls Try.prog 12 #[.pointer (some ⟨g, 0, none⟩)] w fun e w' => e = .returned (.int .i64 M.f) ∧ w = w' := by
  have c1 := hI.c2
  clear hI
  go_enter Try.func12, Try.ntmps12
  go_wp2
  go_ret
  exact ⟨rfl, rfl⟩
theorem cells_any (g B : Nat) (M : Mem) (w : World) (hI : IsMem w g B M) : Calls Try.prog 13 #[.pointer (some ⟨g, 0, none⟩)] w fun e w' => e = .returned (.int .i64 M.n) ∧ w = w' := by
  have c1 := hI.c0
  clear hI
  go_enter Try.func13, Try.ntmps13
  go_wp2
  go_ret
  exact ⟨rfl, rfl⟩
/-- What a cell holds, as Load tells. -/
def Mem.load (M : Mem) (a : Int) : Int × Int := if M.there a = true then (M.c a.toNat, 0) else (0, 7)
theorem there_nat {M : Mem} {a : Int} (ok : M.Ok) (h : M.there a = true) : ∃ k : Nat, a = k ∧ 1 ≤ k ∧ k < M.n := by
  have := of_decide_eq_true h
  obtain ⟨_, _, _, _⟩ := ok
  exact ⟨a.toNat, by omega, by omega, by omega⟩
theorem load_any (g B : Nat) (M : Mem) (ok : M.Ok) (a : Int) (w : World) (hI : IsMem w g B M) : Calls Try.prog 15 #[.pointer (some ⟨g, 0, none⟩), .int .i64 a] w fun e w' => e = .returned (.tuple #[.int .i64 (M.load a).1, .int .i64 (M.load a).2]) ∧ w = w' := by
  have c0 := hI.c0
  have ht := there_any g B M a w hI
  unfold Mem.load
  cases h : M.there a
  · rw [h] at ht
    rw [if_neg (by simp)]
    clear hI c0 h
    go_enter Try.func15, Try.ntmps15
    go_wp2_with (go_at_call 23; refine ht.mono ?_; rintro e w' ⟨rfl, rfl⟩)
    go_ret2
    exact ⟨rfl, rfl⟩
  · rw [h] at ht
    obtain ⟨k, rfl, h1, h2⟩ := there_nat ok h
    rw [if_pos rfl, Int.toNat_natCast]
    have hc := hI.cs k h2
    have l0 : (0 : Int) ≤ (k : Int) := by omega
    have l1 : (k : Int) < (M.n : Int) := by omega
    clear hI h h1 h2 ok
    go_enter Try.func15, Try.ntmps15
    go_wp2_with (go_at_call 23; refine ht.mono ?_; rintro e w' ⟨rfl, rfl⟩)
    go_ret2
    exact ⟨rfl, rfl⟩
def Mem.store (M : Mem) (a v : Int) : Mem := if M.there a = true then M.put a.toNat v else M
def Mem.storeE (M : Mem) (a : Int) : Int := if M.there a = true then 0 else 7
theorem store_any (g B : Nat) (M : Mem) (ok : M.Ok) (a v : Int) (w : World) (hI : IsMem w g B M) : Calls Try.prog 16 #[.pointer (some ⟨g, 0, none⟩), .int .i64 a, .int .i64 v] w fun e w' => e = .returned (.int .i64 (M.storeE a)) ∧ IsMem w' g B (M.store a v) ∧ Only g B w w' := by
  have c0 := hI.c0
  have ht := there_any g B M a w hI
  unfold Mem.store Mem.storeE
  cases h : M.there a
  · rw [h] at ht
    rw [if_neg (by simp), if_neg (by simp)]
    clear c0 h
    replace hI := Aside0.mk hI
    go_enter Try.func16, Try.ntmps16
    go_wp2_with (go_at_call 23; refine ht.mono ?_; rintro e w' ⟨rfl, rfl⟩)
    go_ret
    exact ⟨rfl, hI.out, Only.refl g B _⟩
  · rw [h] at ht
    obtain ⟨k, rfl, h1, h2⟩ := there_nat ok h
    rw [if_pos rfl, if_pos rfl, Int.toNat_natCast]
    have hc := hI.cs k h2
    have hfz := hI.fB k
    have l0 : (0 : Int) ≤ (k : Int) := by omega
    have l1 : (k : Int) < (M.n : Int) := by omega
    have P : IsMem (w.setCell ⟨B, k, none⟩ (.int .i64 v)) g B (M.put k v) := hI.put k h2 v
    clear h h1 h2 ok hI
    replace P := Aside0.mk P
    go_enter Try.func16, Try.ntmps16
    go_wp2_with (go_at_call 23; refine ht.mono ?_; rintro e w' ⟨rfl, rfl⟩)
    go_ret
    exact ⟨rfl, P.out, Only.setCell g B _ _ _ (.inr rfl)⟩
end Go.Proofs.Ytnanjbhdledilaa.Mem
