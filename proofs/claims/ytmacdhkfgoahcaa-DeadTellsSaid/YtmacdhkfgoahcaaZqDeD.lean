/- Of the text DeD, what this law uses. -/
import Derived.Test.YtmacdhkfgoahcaaZqDeC
import Derived.Test.YtmacdhkfgoahcaaZqDeS
/- Contract: the stores that need not be (deadstore.Dead). -/
set_option linter.unusedVariables false
set_option linter.unusedSimpArgs false
namespace Go.Proofs.Ytmacdhkfgoahcaa.De
open Go Go.RowKit Go.Shelf Go.Maps Go.Proofs.Ytmacdhkfgoahcaa.Q Go.Proofs.Ytmacdhkfgoahcaa.Fo Go.Proofs.YtmacdhkfgoahcaaW.PrintWords Go.Proofs.YtmacdhkfgoahcaaW.PrintLast Go.Proofs.YtmacdhkfgoahcaaW.PrintMore
attribute [local go_sem] Oper.semAt_some
def st0 : St := ⟨0, 0, false, fun _ => false⟩
/-- Backwards over the first n operations from the end: the state, the places found (the last first). -/
def goBack (xs : List S30) : Nat → St × List Int
  | 0 => (st0, [])
  | k + 1 => let r := goBack xs k; let x := xs.getD (xs.length - 1 - k) z30
    (stepP r.1 x, if deadP r.1 x = true then r.2 ++ [((xs.length - 1 - k : Nat) : Int)] else r.2)
def deadL (xs : List S30) : List Int := (goBack xs xs.length).2.reverse
/-- The loop's state, behind k rounds: the caller's world w; block +1 the answer's box, +2 next, +3 its pointer, +4 the iterator's box; +5 and +6 the loop's own. -/
structure DI (w : World) (A : Option Addr) (c : Nat) (xs : List S30) (k : Nat) (W : World) : Prop where
  be : Below w.heap.size w W
  sz : w.heap.size + 7 ≤ W.heap.size
  bp : W.heap[w.heap.size + 3]? = some (.cells #[.pointer (some ⟨w.heap.size + 2, 0, none⟩)] 54 (0, 0))
  bb : W.heap[w.heap.size + 4]? = some (.cells #[.slice A xs.length c] 26 (0, 0))
  nx : ∃ mb : Option Nat, (∀ b, mb = some b → w.heap.size + 7 ≤ b) ∧ IsNext W (w.heap.size + 2) k (goBack xs k).1.a (goBack xs k).1.imm (goBack xs k).1.is mb (goBack xs k).1.s
  ou : ∃ v, W.heap[w.heap.size + 1]? = some (.cells #[v] 22 (0, 0)) ∧ W.ownsRow (w.heap.size + 7) 3 1 v (goBack xs k).2.length ((goBack xs k).2.map (Value.int .i64))
theorem IsNext.keep {w w' : World} {g cnt : Nat} {a imm : Int} {is : Bool} {mb : Option Nat} {s : Sn} (h : IsNext w g cnt a imm is mb s) (hg : w'.heap[g]? = w.heap[g]?) (hb : ∀ b, mb = some b → w'.heap[b]? = w.heap[b]?) : IsNext w' g cnt a imm is mb s := by
  obtain ⟨k0, k1, k3, v5, e⟩ := h.ex
  exact ⟨⟨k0, k1, k3, v5, hg.trans e⟩, h.no, fun b e => (h.yes b e).keep (hb b e)⟩
theorem DI.put {w : World} {A : Option Addr} {c : Nat} {xs : List S30} {k : Nat} {W : World} (h : DI w A c xs k W) (l : Nat) (o : Obj) (hl : l = w.heap.size + 5 ∨ l = w.heap.size + 6) : DI w A c xs k (W.putObj l o) := by
  have ho : ∀ i, i ≠ l → (W.putObj l o).heap[i]? = W.heap[i]? := fun i hi => World.putObj_heap_other hi
  obtain ⟨mb, hmb, hn⟩ := h.nx
  obtain ⟨v, hv, hr⟩ := h.ou
  refine ⟨h.be.grown (grownBy_putObj' W l o) h.be.size (fun q e => by cases e; omega), ?_, (ho _ (by omega)).trans h.bp, (ho _ (by omega)).trans h.bb, ⟨mb, hmb, hn.keep (ho _ (by omega)) (fun b e => ho b (by have := hmb b e; omega))⟩, ⟨v, (ho _ (by omega)).trans hv, own_move hr (fun q e => ho q (by have := own_base hr q e; omega))⟩⟩
  have : (W.putObj l o).heap.size = W.heap.size := by simp [World.putObj]
  rw [this]; exact h.sz
theorem DI.below {w : World} {A : Option Addr} {c : Nat} {xs : List S30} {k : Nat} {W W' : World} (h : DI w A c xs k W) (hb : Below W.heap.size W W') : DI w A c xs k W' := by
  obtain ⟨mb, hmb, hn⟩ := h.nx
  obtain ⟨v, hv, hr⟩ := h.ou
  obtain ⟨_, _, _, _, hg⟩ := hn.ex
  exact ⟨h.be.trans (hb.mono h.be.size), Nat.le_trans h.sz hb.size, (hb.block _ (blk_lt h.bp)).trans h.bp, (hb.block _ (blk_lt h.bb)).trans h.bb, ⟨mb, hmb, hn.keep (hb.block _ (blk_lt hg)) (fun b e => hb.block b (hn.yes b e).lt)⟩, ⟨v, (hb.block _ (blk_lt hv)).trans hv, own_move hr (fun q e => hb.block q (own_lt hr q e))⟩⟩
/-- Behind a step: all but the answer. -/
theorem DI.stepped {w : World} {A : Option Addr} {c : Nat} {xs : List S30} {k : Nat} {W w1 : World} (h : DI w A c xs k W) {mb mb' : Option Nat} {a imm : Int} {is : Bool} {s : Sn} (hmb : ∀ b, mb = some b → w.heap.size + 7 ≤ b) (hn : IsNext W (w.heap.size + 2) k a imm is mb s)
    (hm' : mb' = mb ∨ ∃ b, mb' = some b ∧ W.heap.size ≤ b) (hF : Frame W w1 (w.heap.size + 2) mb) {v : Value} {n : Nat} {inner : List Value} (hv : W.heap[w.heap.size + 1]? = some (.cells #[v] 22 (0, 0))) (hr : W.ownsRow (w.heap.size + 7) 3 1 v n inner) :
    Below w.heap.size w w1 ∧ w.heap.size + 7 ≤ w1.heap.size ∧ w1.heap[w.heap.size + 3]? = some (.cells #[.pointer (some ⟨w.heap.size + 2, 0, none⟩)] 54 (0, 0)) ∧ w1.heap[w.heap.size + 4]? = some (.cells #[.slice A xs.length c] 26 (0, 0)) ∧
      (∀ b, mb' = some b → w.heap.size + 7 ≤ b) ∧ w1.heap[w.heap.size + 1]? = some (.cells #[v] 22 (0, 0)) ∧ w1.ownsRow (w.heap.size + 7) 3 1 v n inner ∧ Keep2 (w.heap.size + 5) W w1 := by
  have hsz := h.sz
  have hk : ∀ q, q < w.heap.size + 7 → q ≠ w.heap.size + 2 → w1.heap[q]? = W.heap[q]? := fun q h1 h2 => hF.block q (by omega) h2 (fun e => by have := hmb q e.symm; omega)
  have hbe : Below w.heap.size W w1 := ⟨hF.os, hF.tape, hF.output, hF.size, fun q hq => hk q (by omega) (by omega)⟩
  refine ⟨h.be.trans hbe, Nat.le_trans hsz hF.size, (hk _ (by omega) (by omega)).trans h.bp, (hk _ (by omega) (by omega)).trans h.bb, ?_, (hk _ (by omega) (by omega)).trans hv, own_move hr (fun q e => hF.block q (own_lt hr q e) (by have := own_base hr q e; omega) (fun e' => ?_)), hk _ (by omega) (by omega), hk _ (by omega) (by omega)⟩
  · intro b e
    rcases hm' with rfl | ⟨b', e', h'⟩
    · exact hmb b e
    · rw [e'] at e
      injection e with e
      omega
  · obtain ⟨cells, hc⟩ := own_typed hr q e
    exact (hn.yes q e'.symm).not_cells hc rfl
theorem bn {w : World} {n : Nat} (h : w.heap.size = n) (o : Obj) : (w.alloc o).heap[n]? = some o := h ▸ blk_new w o
/-- What a round's body finds: the operation in a box of its own. -/
def DA (w : World) (A : Option Addr) (c : Nat) (xs : List S30) (t : S25) (sl : Nat → Option Addr × Nat) (j : Nat) (a' : Act) (W : World) : Prop :=
  ∃ Bx, w.heap.size + 7 ≤ Bx ∧ W.heap[Bx]? = some (.cells #[.int .i64 (xs.getD (xs.length - 1 - j) z30).f0, .int .i64 (xs.getD (xs.length - 1 - j) z30).f1, .int .i64 (xs.getD (xs.length - 1 - j) z30).f2, .int .i64 (xs.getD (xs.length - 1 - j) z30).f3, .int .i64 (xs.getD (xs.length - 1 - j) z30).f4, .slice (sl (xs.length - 1 - j)).1 (xs.getD (xs.length - 1 - j) z30).f5.length (sl (xs.length - 1 - j)).2] 30 (0, 0)) ∧
    a' = { tmps := #[.agg #[.slice A xs.length c, .int .i64 t.f0, .int .i64 t.f1, .int .i64 t.f2, .int .i64 t.f3], .pointer (some ⟨w.heap.size, 0, none⟩), .slice none 0 0, .pointer (some ⟨w.heap.size + 1, 0, none⟩), .pointer (some ⟨w.heap.size + 1 + 1 + 1, 0, none⟩), .int .i64 ((xs.length - 1 - j : Nat) : Int), .pointer (some ⟨Bx, 0, none⟩), .agg #[.int .i64 0, .int .i64 0, .int .i64 0, .int .i64 0, .int .i64 0, .slice none 0 0, .bool false, .map none], .pointer (some ⟨w.heap.size + 1 + 1, 0, none⟩), .pointer (some ⟨w.heap.size, 0, none⟩), .slice A xs.length c, .func (.func 63) #[] #[.pointer (some ⟨w.heap.size + 1 + 1 + 1 + 1, 0, none⟩)],
      .int .i64 ((xs.length - 1 - j : Nat) : Int), opV (xs.getD (xs.length - 1 - j) z30) (.slice (sl (xs.length - 1 - j)).1 (xs.getD (xs.length - 1 - j) z30).f5.length (sl (xs.length - 1 - j)).2), undef, undef, undef, undef, undef, undef, undef, undef, undef, undef], defers := [] }
theorem app_end {w w1 w2 : World} {v v' : Value} {n m : Nat} {inner inner' : List Value} {tmp : Obj} (b1 : Below w.heap.size w w1) (b2 : w.heap.size + 7 ≤ w1.heap.size) (c3 : Boxed w1 (w.heap.size + 1) 22 v) (hr : w1.ownsRow (w.heap.size + 7) 3 1 v n inner) (hgrow : (w1.alloc tmp).grownBy w2 v.ownBlock) (hown' : w2.ownsRow (w.heap.size + 7) 3 1 v' m inner') :
    Boxed w2 (w.heap.size + 1) 22 v ∧ Below w.heap.size w (w2.setCell ⟨w.heap.size + 1, 0, none⟩ v') ∧ w.heap.size + 7 ≤ (w2.setCell ⟨w.heap.size + 1, 0, none⟩ v').heap.size ∧ (∀ q, q < w1.heap.size → q ≠ w.heap.size + 1 → some q ≠ v.ownBlock → (w2.setCell ⟨w.heap.size + 1, 0, none⟩ v').heap[q]? = w1.heap[q]?) ∧
      Boxed (w2.setCell ⟨w.heap.size + 1, 0, none⟩ v') (w.heap.size + 1) 22 v' ∧ (w2.setCell ⟨w.heap.size + 1, 0, none⟩ v').ownsRow (w.heap.size + 7) 3 1 v' m inner' := by
  have hv2 : Boxed w2 (w.heap.size + 1) 22 v := (c3.alloc tmp).kept hgrow (c3.not_row (by decide) hr)
  have hz : (w1.alloc tmp).heap.size = w1.heap.size + 1 := World.size_alloc _ _
  have hs := hgrow.size
  have hk : ∀ q, q < w1.heap.size → q ≠ w.heap.size + 1 → some q ≠ v.ownBlock → (w2.setCell ⟨w.heap.size + 1, 0, none⟩ v').heap[q]? = w1.heap[q]? := fun q h1 h2 h3 => (Below.heap_setCell w2 ⟨w.heap.size + 1, 0, none⟩ v' q h2).trans ((hgrow.block q (by omega) h3).trans (Below.heap_alloc w1 tmp q h1))
  refine ⟨hv2, ?_, ?_, hk, hv2.set v', hown'.kept (grownBy_setCell' w2 _ v') (.inr (hv2.not_row (by decide) hown').symm)⟩
  · refine (((b1.alloc b1.size tmp).grown hgrow (by have := b1.size; omega) fun j ej => ?_)).setCell (p := ⟨w.heap.size + 1, 0, none⟩) (by simp) v'
    have := own_base hr j ej; omega
  · have h2 : (w2.setCell ⟨w.heap.size + 1, 0, none⟩ v').heap.size = w2.heap.size := by simp
    omega
theorem info3 : (Try.prog.info? 3).map (fun i => (i.zero, i.size, i.bytes)) = some (some (.int .i64 0), 1, 8) := by kernel_rfl
theorem goBack_len (xs : List S30) (k : Nat) : (goBack xs k).2.length ≤ k := by
  induction k with
  | zero => exact Nat.le_refl _
  | succ k ih =>
    show (if deadP (goBack xs k).1 (xs.getD (xs.length - 1 - k) z30) = true then (goBack xs k).2 ++ [((xs.length - 1 - k : Nat) : Int)] else (goBack xs k).2).length ≤ k + 1
    split
    · rw [List.length_append, List.length_singleton]; omega
    · omega
set_option maxRecDepth 100000 in
set_option maxHeartbeats 8000000 in
theorem dead_in (A : Option Addr) (c : Nat) (xs : List S30) (t : S25) (w : World) (hr : Kd.C k30 w A xs.length xs) (hw : ∀ x ∈ xs, WfOp x) (hlen : xs.length < 1099511627776) :
    CallsIn Fence.wide 5 Try.prog 10 #[.agg #[.slice A xs.length c, .int .i64 t.f0, .int .i64 t.f1, .int .i64 t.f2, .int .i64 t.f3]] w fun e w' => ∃ v, e = .returned v ∧ Kd.R (Kd.int .i64) 3 w' w.heap.size (fun _ => True) v (deadL xs) ∧ Below w.heap.size w w' := by
  obtain ⟨ad, sl, hA, hO⟩ := ops_at hr
  refine callsIn_of_wp_marks Try.func10 rfl trivial ?_ rfl
  simp only [Try.ntmps10, List.size_toArray, List.length_cons, List.length_nil, Nat.reduceAdd, Nat.reduceSub, Array.replicate_succ, Array.replicate_zero, List.push_toArray, List.append_toArray, List.nil_append, List.cons_append]
  gi_wp2_with (refine ⟨trivial, ?_⟩; gi_at_call 34; refine (back_in _ _ _ _ _).mono ?_; rintro e w' ⟨rfl, rfl⟩)
  generalize hO1 : Obj.cells #[.slice A xs.length c, .int .i64 t.f0, .int .i64 t.f1, .int .i64 t.f2, .int .i64 t.f3] 28 = O1
  have hs5 : (((((w.alloc O1).alloc (.cells #[.slice none 0 0] 22)).alloc (.cells #[.int .i64 0, .int .i64 0, .int .i64 0, .int .i64 0, .int .i64 0, .slice none 0 0, .bool false, .map none] 57)).alloc (.cells #[.pointer (some ⟨w.heap.size + 1 + 1, 0, none⟩)] 54)).alloc (.cells #[.slice A xs.length c] 26)).heap.size = w.heap.size + 5 := by simp only [World.size_alloc]
  have g1 : (((((w.alloc O1).alloc (.cells #[.slice none 0 0] 22)).alloc (.cells #[.int .i64 0, .int .i64 0, .int .i64 0, .int .i64 0, .int .i64 0, .slice none 0 0, .bool false, .map none] 57)).alloc (.cells #[.pointer (some ⟨w.heap.size + 1 + 1, 0, none⟩)] 54)).alloc (.cells #[.slice A xs.length c] 26)).heap[w.heap.size + 1]? = some (.cells #[.slice none 0 0] 22 (0, 0)) := blk_alloc (blk_alloc (blk_alloc (bn (World.size_alloc w O1) _) _) _) _
  have g2 : (((((w.alloc O1).alloc (.cells #[.slice none 0 0] 22)).alloc (.cells #[.int .i64 0, .int .i64 0, .int .i64 0, .int .i64 0, .int .i64 0, .slice none 0 0, .bool false, .map none] 57)).alloc (.cells #[.pointer (some ⟨w.heap.size + 1 + 1, 0, none⟩)] 54)).alloc (.cells #[.slice A xs.length c] 26)).heap[w.heap.size + 2]? = some (.cells #[.int .i64 0, .int .i64 0, .int .i64 0, .int .i64 0, .int .i64 0, .slice none 0 0, .bool false, .map none] 57 (0, 0)) := blk_alloc (blk_alloc (bn (by simp only [World.size_alloc]) _) _) _
  have g3 : (((((w.alloc O1).alloc (.cells #[.slice none 0 0] 22)).alloc (.cells #[.int .i64 0, .int .i64 0, .int .i64 0, .int .i64 0, .int .i64 0, .slice none 0 0, .bool false, .map none] 57)).alloc (.cells #[.pointer (some ⟨w.heap.size + 1 + 1, 0, none⟩)] 54)).alloc (.cells #[.slice A xs.length c] 26)).heap[w.heap.size + 3]? = some (.cells #[.pointer (some ⟨w.heap.size + 1 + 1, 0, none⟩)] 54 (0, 0)) := blk_alloc (bn (by simp only [World.size_alloc]) _) _
  have g4 : (((((w.alloc O1).alloc (.cells #[.slice none 0 0] 22)).alloc (.cells #[.int .i64 0, .int .i64 0, .int .i64 0, .int .i64 0, .int .i64 0, .slice none 0 0, .bool false, .map none] 57)).alloc (.cells #[.pointer (some ⟨w.heap.size + 1 + 1, 0, none⟩)] 54)).alloc (.cells #[.slice A xs.length c] 26)).heap[w.heap.size + 4]? = some (.cells #[.slice A xs.length c] 26 (0, 0)) := bn (by simp only [World.size_alloc]) _
  have hB0 : Below w.heap.size w (((((w.alloc O1).alloc (.cells #[.slice none 0 0] 22)).alloc (.cells #[.int .i64 0, .int .i64 0, .int .i64 0, .int .i64 0, .int .i64 0, .slice none 0 0, .bool false, .map none] 57)).alloc (.cells #[.pointer (some ⟨w.heap.size + 1 + 1, 0, none⟩)] 54)).alloc (.cells #[.slice A xs.length c] 26)) := (((((Below.refl _ w).alloc (Nat.le_refl _) _).alloc (by simp) _).alloc (by simp; omega) _).alloc (by simp; omega) _).alloc (by simp; omega) _
  generalize (((((w.alloc O1).alloc (.cells #[.slice none 0 0] 22)).alloc (.cells #[.int .i64 0, .int .i64 0, .int .i64 0, .int .i64 0, .int .i64 0, .slice none 0 0, .bool false, .map none] 57)).alloc (.cells #[.pointer (some ⟨w.heap.size + 1 + 1, 0, none⟩)] 54)).alloc (.cells #[.slice A xs.length c] 26)) = W0 at *
  refine range_book (encs := encB xs sl) rfl (by decide) (gf := 63) (lb := #[.pointer (some ⟨w.heap.size + 1 + 1 + 1 + 1, 0, none⟩)]) rfl trivial (enters_of Try.func63 (by kernel_rfl) rfl) (fun _ => rfl)
    (fun pre W => DI w A c xs pre.length W) (DA w A c xs t sl) (fun ys => ys.length = xs.length) (fun pre j => pre.length < xs.length ∧ j = pre.length) ?hI ?hA ?h0 ?hiter ?hassign ?hbody ?hdone
  case hI => exact fun pre W l o hl h => h.put l o (by rw [hs5] at hl; omega)
  case hiter =>
    intro l J hJI hY W hJ
    exact back1_in _ (by decide) l (w.heap.size + 4) A c xs ad sl hlen hA J (fun pre W h => ⟨(blk_cell (hJI _ _ h).bb 0).trans rfl, hO.below (hJI _ _ h).be⟩) hY W hJ
  case hA =>
    rintro j a' W l o hl ⟨Bx, h1, h2, h3⟩
    exact ⟨Bx, h1, (World.putObj_heap_other (by omega)).trans h2, h3⟩
  case h0 =>
    intro o o'
    have hz : ((W0.alloc o).alloc o').heap.size = w.heap.size + 7 := by simp only [World.size_alloc, hs5]
    exact ⟨(hB0.alloc hB0.size _).alloc (by rw [World.size_alloc]; have := hB0.size; omega) _, by rw [hz]; exact Nat.le_refl _, blk_alloc (blk_alloc g3 _) _, blk_alloc (blk_alloc g4 _) _, ⟨none, fun b e => (by cases e), ⟨⟨_, _, _, _, blk_alloc (blk_alloc g2 _) _⟩, fun _ => rfl, fun b e => (by cases e)⟩⟩, ⟨.slice none 0 0, blk_alloc (blk_alloc g1 _) _, World.ownsRow_nil _ _ _ _⟩⟩
  case hassign =>
    rintro l pre j W hD ⟨hlt, rfl⟩
    unfold encB opV
    gi_wp2
    have hb := (Below.refl W.heap.size W).alloc (Nat.le_refl _) (.cells #[.int .i64 (xs.getD (xs.length - 1 - pre.length) z30).f0, .int .i64 (xs.getD (xs.length - 1 - pre.length) z30).f1, .int .i64 (xs.getD (xs.length - 1 - pre.length) z30).f2, .int .i64 (xs.getD (xs.length - 1 - pre.length) z30).f3, .int .i64 (xs.getD (xs.length - 1 - pre.length) z30).f4, .slice (sl (xs.length - 1 - pre.length)).1 (xs.getD (xs.length - 1 - pre.length) z30).f5.length (sl (xs.length - 1 - pre.length)).2] 30)
    have hsz := hD.sz
    exact ⟨⟨hb.block _ (by omega), hb.block _ (by omega)⟩, hD.below hb, W.heap.size, hsz, blk_new W _, rfl⟩
  case hbody =>
    rintro l pre j a' W hD ⟨Bx, hBx, hX, rfl⟩ ⟨hlt, rfl⟩
    obtain ⟨mb, hmb, hn⟩ := hD.nx
    obtain ⟨v, hv, hrow⟩ := hD.ou
    obtain ⟨i0, hi0⟩ : ∃ i0, i0 = xs.length - 1 - pre.length := ⟨_, rfl⟩
    have hil : i0 < xs.length := by omega
    have hgd : xs.getD i0 z30 = xs[i0] := by simp [List.getD, List.getElem?_eq_getElem hil]
    obtain ⟨_, _, _, _, _, _, hl5, hi5⟩ := (hO.below hD.be) i0 hil
    have hxw := hw xs[i0] (List.getElem_mem hil)
    have hg1 : goBack xs (pre.length + 1) = (stepP (goBack xs pre.length).1 xs[i0], if deadP (goBack xs pre.length).1 xs[i0] = true then (goBack xs pre.length).2 ++ [(i0 : Int)] else (goBack xs pre.length).2) := by
      show (stepP (goBack xs pre.length).1 (xs.getD (xs.length - 1 - pre.length) z30), if deadP (goBack xs pre.length).1 (xs.getD (xs.length - 1 - pre.length) z30) = true then (goBack xs pre.length).2 ++ [((xs.length - 1 - pre.length : Nat) : Int)] else (goBack xs pre.length).2) = _
      rw [← hi0, hgd]
    rw [← hi0, hgd] at hX
    rw [← hi0, hgd]
    obtain ⟨x, hx⟩ : ∃ x, x = xs[i0] := ⟨_, rfl⟩
    rw [← hx] at hX hl5 hi5 hxw hg1 ⊢
    have hS := step_any (w.heap.size + 2) pre.length (goBack xs pre.length).1 mb x (sl i0).1 (sl i0).2 hxw W hn hi5 hl5 (by unfold maxLen; omega)
    unfold opV at hS ⊢
    have p0 : W.cell? ⟨w.heap.size + 1 + 1 + 1, 0, none⟩ = some (.pointer (some ⟨w.heap.size + 2, 0, none⟩)) := (blk_cell hD.bp 0).trans rfl
    have x0 : W.cell? ⟨Bx, 0, none⟩ = some (.int .i64 x.f0) := (blk_cell hX 0).trans rfl
    have x1 : W.cell? ⟨Bx, 1, none⟩ = some (.int .i64 x.f1) := (blk_cell hX 1).trans rfl
    have x2 : W.cell? ⟨Bx, 2, none⟩ = some (.int .i64 x.f2) := (blk_cell hX 2).trans rfl
    have x3 : W.cell? ⟨Bx, 3, none⟩ = some (.int .i64 x.f3) := (blk_cell hX 3).trans rfl
    have x4 : W.cell? ⟨Bx, 4, none⟩ = some (.int .i64 x.f4) := (blk_cell hX 4).trans rfl
    have x5 : W.cell? ⟨Bx, 5, none⟩ = some (.slice (sl i0).1 x.f5.length (sl i0).2) := (blk_cell hX 5).trans rfl
    replace hs5 := Aside0.mk hs5
    replace hD := Aside0.mk hD
    replace hn := Aside0.mk hn
    replace hv := Aside0.mk hv
    replace hrow := Aside0.mk hrow
    replace hX := Aside0.mk hX
    replace hg1 := Aside0.mk hg1
    replace hmb := Aside0.mk hmb
    clear hgd hi0 hx hr hw hO hl5 hi5 hxw g1 g2 g3 g4 hB0
    rcases Bool.eq_false_or_eq_true (deadP (goBack xs pre.length).1 x) with hd | hd
    · rw [hd] at hS
      have hd' := Aside0.mk hd
      clear hd
      have hml := Aside0.mk (show (goBack xs pre.length).2.length + 1 ≤ 1099511627776 by have := goBack_len xs pre.length; omega)
      obtain ⟨i3, hi, hz0, hz1, hz2⟩ := info_parts info3
      gi_wp2
      refine ⟨trivial, ?_⟩
      gi_at_call 35
      refine (CallsIn.inRound l (callsIn_wide.2 hS)).mono ?_
      rintro e w1 ⟨rfl, mb', hm', hn', hF⟩
      have hST := Aside0.mk (hD.out.stepped hmb.out hn.out hm' hF hv.out hrow.out)
      have c3 : Boxed w1 (w.heap.size + 1) 22 v := hST.out.2.2.2.2.2.1
      have d3 := c3.cell
      gi_wp2_with (gi_at_builtin; refine wpListIn_append_own _ rfl _ _ 22 rfl (w.heap.size + 7) 3 i3 (.int .i64 0) 1 8 Try.underlying22 hi hz0 hz1 hz2 rfl (by decide) _ _ _ rfl (hST.out.2.2.2.2.2.2.1.alloc _) ⟨w1.heap.size, 0, none⟩ 1 1 [.int .i64 (i0 : Int)] rfl rfl (cell_one_new _ _ _) (by simp [Value.oneCell']) (by have := hml.out; unfold maxLen; omega) (by have := hml.out; omega) (by have := hST.out.2.1; simp; omega) ?_; intro v' w2 hown' hgrow _; obtain ⟨g', cap', rfl⟩ := ownsRow_succ hown'; have hAE := Aside0.mk (app_end hST.out.1 hST.out.2.1 c3 hST.out.2.2.2.2.2.2.1 hgrow hown'); have hc1 := hAE.out.1.cell; have hf1 := hAE.out.1.frozen)
      obtain ⟨b1, b2, b3, b4, b5, b6, b7, b8⟩ := hST.out
      obtain ⟨_, e1, e2, e3, e4, e5⟩ := hAE.out
      have hfar : ∀ q, q < w.heap.size + 7 → some q ≠ v.ownBlock := fun q hq e => by have := own_base b7 q e.symm; omega
      have hz1 := hs5.out
      refine ⟨⟨?_, ?_⟩, ⟨e1, e2, (e3 _ (by omega) (by omega) (hfar _ (by omega))).trans b3, (e3 _ (by omega) (by omega) (hfar _ (by omega))).trans b4, ⟨mb', b5, ?_⟩, ⟨_, e4, ?_⟩⟩⟩
      · rw [hz1]; exact (e3 _ (by omega) (by omega) (hfar _ (by omega))).trans b8.1
      · rw [hz1]; exact (e3 _ (by omega) (by omega) (hfar _ (by omega))).trans b8.2
      · rw [hg1.out]
        refine hn'.keep (e3 _ (by omega) (by omega) (hfar _ (by omega))) (fun b e => e3 b (hn'.yes b e).lt (by have := b5 b e; omega) (fun e' => ?_))
        obtain ⟨cells, hc⟩ := own_typed b7 b e'.symm
        exact (hn'.yes b e).not_cells hc rfl
      · rw [hg1.out]; dsimp only; rw [if_pos (by rw [hd'.out])]
        simpa using e5
    · rw [hd] at hS
      have hd' := Aside0.mk hd
      clear hd
      gi_wp2_with (refine ⟨trivial, ?_⟩; gi_at_call 35; refine (CallsIn.inRound l (callsIn_wide.2 hS)).mono ?_; rintro e w1 ⟨rfl, mb', hm', hn', hF⟩)
      obtain ⟨b1, b2, b3, b4, b5, b6, b7, b8⟩ := hD.out.stepped hmb.out hn.out hm' hF hv.out hrow.out
      refine ⟨by rw [hs5.out]; exact b8, ⟨b1, b2, b3, b4, ⟨mb', b5, ?_⟩, ⟨v, b6, ?_⟩⟩⟩
      · rw [hg1.out]; exact hn'
      · rw [hg1.out]; dsimp only; rw [if_neg (by rw [hd'.out]; decide)]; exact b7
  case hdone =>
    intro ys W hys hD hK
    obtain ⟨v, hv, hrow⟩ := hD.ou
    rw [hys] at hrow
    have c3 : Boxed W (w.heap.size + 1) 22 v := hv
    have d3 := c3.cell
    obtain ⟨vA, vc, rfl⟩ := own_slice hrow
    have hR := rev_any _ (goBack xs xs.length).2 (w.heap.size + 7) W hrow
    have hbe := Aside0.mk hD.be
    have hsz := Aside0.mk hD.sz
    have hrow' := Aside0.mk hrow
    have c3' := Aside0.mk c3
    have hK' := Aside0.mk hK
    replace hs5 := Aside0.mk hs5
    clear hD hrow hv c3 hK hr hw hO g1 g2 g3 g4 hB0
    gi_wp2_with (refine ⟨trivial, ?_⟩; gi_at_call 36; refine (callsIn_wide.2 hR).mono ?_; rintro e w9 ⟨rfl, hr9, hg9⟩; have c9 : Boxed w9 (w.heap.size + 1) 22 _ := c3'.out.kept hg9 (c3'.out.not_row (by decide) hrow'.out); have d9 := c9.cell)
    have hz5 := hs5.out
    have hz7 := hsz.out
    have hK9 : w9.heap[W0.heap.size]? = some (.deferred (some [])) := (hg9.block _ (by omega) (fun e => by have := own_base hrow'.out _ e.symm; omega)).trans hK'.out
    refine ⟨by simp, .inl ⟨_, _, rfl, run_takeDeferred hK9, ?_⟩⟩
    have hr10 := own_move (w1 := w9.putObj W0.heap.size (.deferred none)) hr9 (fun q e => World.putObj_heap_other (by have := own_base hr9 q e; omega))
    have hRR : Kd.R (Kd.int .i64) 3 (w9.putObj W0.heap.size (.deferred none)) w.heap.size (fun _ => True) (.slice vA (goBack xs xs.length).2.length vc) (deadL xs) := ⟨fun _ _ => trivial, _, own_weaken hr10 (by omega), reps_ints (fun x cs => cs = [.int .i64 x]) (fun _ => rfl) _⟩
    refine ⟨.slice vA (goBack xs xs.length).2.length vc, by simp [results, Try.results10, go_sem], _, rfl, hRR,
      (hbe.out.grown hg9 hbe.out.size (fun q e => by have := own_base hrow'.out q e; omega)).grown (grownBy_putObj' _ _ _) (Nat.le_trans hbe.out.size hg9.size) (fun q e => by cases e; omega)⟩
/-- Which stores need not be. -/
theorem dead_any (A : Option Addr) (c : Nat) (xs : List S30) (t : S25) (w : World) (hr : Kd.C k30 w A xs.length xs) (hw : ∀ x ∈ xs, WfOp x) (hlen : xs.length < 1099511627776) :
    Calls Try.prog 10 #[.agg #[.slice A xs.length c, .int .i64 t.f0, .int .i64 t.f1, .int .i64 t.f2, .int .i64 t.f3]] w fun e w' => ∃ v, e = .returned v ∧ Kd.R (Kd.int .i64) 3 w' w.heap.size (fun _ => True) v (deadL xs) ∧ Below w.heap.size w w' := callsIn_wide.1 (dead_in A c xs t w hr hw hlen)
end Go.Proofs.Ytmacdhkfgoahcaa.De

