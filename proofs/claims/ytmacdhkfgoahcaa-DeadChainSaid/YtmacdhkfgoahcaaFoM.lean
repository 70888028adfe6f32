/- Contract, walked by hand: what is learned of an operation (facts.learn). For every state, every operation. -/
import Derived.Test.YtmacdhkfgoahcaaFoK
import Derived.Test.YtmacdhkfgoahcaaFoL
set_option linter.unusedVariables false
set_option linter.unusedSimpArgs false
namespace Go.Proofs.Ytmacdhkfgoahcaa.Fo
open Go Go.RowKit Go.Maps Go.Proofs.Ytmacdhkfgoahcaa.Q Go.Proofs.YtmacdhkfgoahcaaW.PrintWords Go.Proofs.YtmacdhkfgoahcaaW.PrintLast Go.Proofs.YtmacdhkfgoahcaaW.PrintMore
/-- Only these two blocks of what lay turn. -/
structure Grow2 (g b : Nat) (w w' : World) : Prop where
  os : w'.os = w.os
  tape : w'.tape = w.tape
  output : w'.output = w.output
  size : w.heap.size ≤ w'.heap.size
  block : ∀ k, k < w.heap.size → k ≠ g → k ≠ b → w'.heap[k]? = w.heap[k]?
theorem Grow2.of {g b : Nat} {w w' : World} (h : Below w.heap.size w w') : Grow2 g b w w' := ⟨h.os, h.tape, h.output, h.size, fun k hk _ _ => h.block k hk⟩
theorem Grow2.trans {g b : Nat} {w1 w2 w3 : World} (h : Grow2 g b w1 w2) (k : Grow2 g b w2 w3) : Grow2 g b w1 w3 :=
  ⟨k.os.trans h.os, k.tape.trans h.tape, k.output.trans h.output, Nat.le_trans h.size k.size, fun i hi h1 h2 => (k.block i (Nat.lt_of_lt_of_le hi h.size) h1 h2).trans (h.block i hi h1 h2)⟩
theorem Grow2.one {g b r : Nat} {w w' : World} (h : w.grownBy w' (some r)) (hr : r = g ∨ r = b) : Grow2 g b w w' :=
  ⟨h.os, h.tape, h.output, h.size, fun k hk h1 h2 => h.block k hk (fun e => by injection e with e; rcases hr with hr | hr <;> omega)⟩
theorem cell_same {w w' : World} {b : Nat} (h : w'.heap[b]? = w.heap[b]?) (i : Nat) : w'.cell? ⟨b, i, none⟩ = w.cell? ⟨b, i, none⟩ := by simp [World.cell?, h]
theorem MapI.grown {w w' : World} {b r cnt : Nat} {m : Fn} (h : MapI w b cnt m) (hg : w.grownBy w' (some r)) (hne : b ≠ r) : MapI w' b cnt m := h.keep (hg.block b h.lt (fun e => hne (by injection e)))
def setsD (m : Fn) (x : S30) : Fn := if (x.f0 == 1) = true then put (del m (setsI x)) (setsI x) x.f4 else del m (setsI x)
def setsC (c : Fn) (x : S30) : Fn := if (x.f0 == 3 && x.f2 != setsI x) = true then put (strike (del c (setsI x)) (setsI x)) (setsI x) x.f2 else strike (del c (setsI x)) (setsI x)
def LearnPost (w : World) (g nb cb cnt : Nat) (m c : Fn) (e : Ending) (w' : World) : Prop := e = .returned (.tuple #[]) ∧ IsFacts w' g nb cb (cnt + 1) m c ∧ Grow2 nb cb w w'
theorem eg81 : ∀ args w, (callFunc 81 args).run Try.prog w = .ok (.enter 81 args) w := enters_of Try.func81 (by kernel_rfl) rfl
theorem closure81 (k : Value) (v d : Int) (bx : Nat) (W : World) (hx : W.cell? ⟨bx, 0, none⟩ = some (.int .i64 d)) :
    Calls Try.prog 81 (#[k, .int .i64 v] ++ #[.pointer (some ⟨bx, 0, none⟩)]) W fun e w' => e = .returned (.bool (v == d)) ∧ w' = W := by
  go_enter Try.func81, Try.ntmps81
  go_wp2
  go_ret
  exact ⟨rfl, rfl⟩
theorem strike_any (cb cnt : Nat) (c : Fn) (d : Int) (bx : Nat) (w : World) (hm : MapI w cb cnt c) (hx : w.cell? ⟨bx, 0, none⟩ = some (.int .i64 d)) (hne : bx ≠ cb) :
    Calls Try.prog 80 #[.map (some cb), .func (.func 81) #[] #[.pointer (some ⟨bx, 0, none⟩)]] w fun e w' => e = .returned (.tuple #[]) ∧ MapI w' cb cnt (strike c d) ∧ w.grownBy w' (some cb) := by
  obtain ⟨D, hD, hT⟩ := hm.ex
  have hok := hm.ok
  refine (AnyDf.maps_DeleteFunc Try.delII law3 (plainElem Try.prog 3) (isD d) 81 #[.pointer (some ⟨bx, 0, none⟩)] cb cnt D w eg81 hD (fun W key val kl yd yp hgW _ hv => ?_)).mono fun e w' ⟨h1, h2, h3⟩ => ⟨h1, ⟨⟨_, h2, strike_tells hT d hD⟩, fun a n h => ?_⟩, h3⟩
  · obtain ⟨v, rfl, hy, _⟩ := plainElem_int_inv Try.underlying3 hv
    obtain rfl : yd = .lit (.int .i64 v) := by simpa using (congrArg Prod.fst hy)
    have hlt : bx < w.heap.size := World.block_lt_of_cell? _ _ hx
    have hx' : W.cell? ⟨bx, 0, none⟩ = some (.int .i64 d) := (cell_same (hgW.block bx hlt (fun e => hne (by injection e))) 0).trans hx
    exact (closure81 key v d bx W hx').mono fun _ _ ⟨he, hw⟩ => ⟨he, hw ▸ World.grownBy.refl _ _⟩
  · unfold strike at h
    split at h
    · cases h
    · exact hok a n h
theorem del_map {w w' : World} {b cnt : Nat} {m : Fn} {D : DataW Unit} (hT : Tells D m) (hok : OkFn m) (a : Int) (h : w'.ownsMap Try.prog 3 (plainElem Try.prog 3) b cnt (D.del (.int .i64 a))) : MapI w' b cnt (del m a) :=
  ⟨⟨_, h, hT.del a⟩, fun x n hx => by unfold del at hx; split at hx; (· cases hx); (· exact hok x n hx)⟩
theorem put_map {w w' : World} {b cnt : Nat} {m : Fn} {D : DataW Unit} (hw : w.ownsMap Try.prog 3 (plainElem Try.prog 3) b cnt D) (hT : Tells D m) (hok : OkFn m) (a v : Int) (hv : wf v) (h : w'.ownsMap Try.prog 3 (plainElem Try.prog 3) b (cnt + 1) (D.put (.int .i64 a) (.lit (.int .i64 v)))) : MapI w' b (cnt + 1) (put m a v) :=
  ⟨⟨_, h, hT.put hw.isMap a v⟩, fun x n hx => by unfold put at hx; split at hx; (· injection hx with hx; rw [← hx]; exact hv); (· exact hok x n hx)⟩
/-- The state within learn. -/
structure LS (w0 w : World) (g nb cb kn kc : Nat) (m c : Fn) (x : S30) (B Bd : Nat) (d : Int) : Prop where
  c0 : w.cell? ⟨g, 0, none⟩ = some (.map (some nb))
  c1 : w.cell? ⟨g, 1, none⟩ = some (.map (some cb))
  mn : MapI w nb kn m
  mc : MapI w cb kc c
  d1 : nb ≠ cb
  gr : Grow2 nb cb w0 w
  x0 : w.cell? ⟨B, 0, none⟩ = some (.int .i64 x.f0)
  x2 : w.cell? ⟨B, 2, none⟩ = some (.int .i64 x.f2)
  x4 : w.cell? ⟨B, 4, none⟩ = some (.int .i64 x.f4)
  bd : w.cell? ⟨Bd, 0, none⟩ = some (.int .i64 d)
theorem no_map {w : World} {b cnt : Nat} {m : Fn} (h : MapI w b cnt m) {k i : Nat} {v : Value} (hc : w.cell? ⟨k, i, none⟩ = some v) : k ≠ b := by
  rintro rfl
  obtain ⟨D, ⟨es, clock, h1, _⟩, _⟩ := h.ex
  simp [World.cell?, h1] at hc
section
variable {w0 w w' : World} {g nb cb kn kc : Nat} {m c : Fn} {x : S30} {B Bd : Nat} {d : Int}
theorem LS.drew (h : LS w0 w g nb cb kn kc m c x B Bd d) : LS w0 w.drew g nb cb kn kc m c x B Bd d :=
  ⟨h.c0, h.c1, h.mn.keep rfl, h.mc.keep rfl, h.d1, ⟨h.gr.os, h.gr.tape, h.gr.output, h.gr.size, h.gr.block⟩, h.x0, h.x2, h.x4, h.bd⟩
theorem LS.step (h : LS w0 w g nb cb kn kc m c x B Bd d) {r : Nat} (hr : r = nb ∨ r = cb) (hg : w.grownBy w' (some r)) {kn' kc' : Nat} {m' c' : Fn} (hm : MapI w' nb kn' m') (hc : MapI w' cb kc' c') : LS w0 w' g nb cb kn' kc' m' c' x B Bd d := by
  have same : ∀ (k i : Nat) (v : Value), w.cell? ⟨k, i, none⟩ = some v → w'.cell? ⟨k, i, none⟩ = some v := fun k i v hv => by
    have h1 := no_map h.mn hv
    have h2 := no_map h.mc hv
    exact (cell_same (hg.block k (World.block_lt_of_cell? _ _ hv) (fun e => by injection e with e; rcases hr with hr | hr <;> omega)) i).trans hv
  exact ⟨same _ _ _ h.c0, same _ _ _ h.c1, hm, hc, h.d1, h.gr.trans (Grow2.one hg hr), same _ _ _ h.x0, same _ _ _ h.x2, same _ _ _ h.x4, same _ _ _ h.bd⟩
theorem LS.facts (h : LS w0 w g nb cb kn kc m c x B Bd d) {k : Nat} (h1 : kn ≤ k) (h2 : kc ≤ k) : IsFacts w g nb cb k m c := ⟨h.c0, h.c1, h.mn.mono h1, h.mc.mono h2, h.d1⟩
end
set_option maxHeartbeats 4000000 in
set_option maxRecDepth 100000 in
theorem learn0 (g nb cb cnt : Nat) (m c : Fn) (x : S30) (A : Option Addr) (k : Nat) (hx : WfOp x) (hd : wf (setsI x)) (hcnt : cnt + 1 < maxLen) (w : World) (hF : IsFacts w g nb cb cnt m c) (hr : Kd.C (Kd.int .i64) w A x.f5.length x.f5) (hk : x.f5.length ≤ k) (h0 : (setsI x == 0) = true) :
    Calls Try.prog 56 #[.pointer (some ⟨g, 0, none⟩), opV x (.slice A x.f5.length k)] w (LearnPost w g nb cb cnt (m) (c)) := by
  have hS : ∀ W, Below w.heap.size w W → Calls Try.prog 31 #[.agg #[.int .i64 x.f0, .int .i64 x.f1, .int .i64 x.f2, .int .i64 x.f3, .int .i64 x.f4, .slice A x.f5.length k]] W fun e w' => e = .returned (.int .i64 (setsI x)) ∧ Below W.heap.size W w' := fun W h => code_Sets.calls 9 x.f0 x.f1 x.f2 x.f3 x.f4 A k x.f5 (setsI x) W (Kd.C_below hr h) hk (sets_some x)
  generalize setsI x = d at *
  have hG := Aside0.mk hF
  have w2 := hx.h2
  have w4 := hx.h4
  have hW2 := Aside0.mk w2
  have hW4 := Aside0.mk w4
  have hkey := key3 hd
  clear hF hr hk hx w2 w4 hd
  unfold opV
  go_enter Try.func56, Try.ntmps56
  go_wp2_with (go_at_call 31; refine (hS _ ?hb).mono ?_; (case hb => exact (Below.refl w.heap.size w).alloc (Nat.le_refl _) _); rintro e w1 ⟨rfl, hd1⟩; have HB := Aside0.mk (((Below.refl w.heap.size w).alloc (Nat.le_refl _) _).trans (hd1.mono (by simp))); have hc1 : ∀ b o, b < w.heap.size + 1 → w1.cell? ⟨b, o, none⟩ = (w.alloc (.cells #[.int .i64 x.f0, .int .i64 x.f1, .int .i64 x.f2, .int .i64 x.f3, .int .i64 x.f4, .slice A x.f5.length k] 30)).cell? ⟨b, o, none⟩ := (fun b o h => hd1.cell (p := ⟨b, o, none⟩) (by simpa using h)); have hz1 : w.heap.size + 1 ≤ w1.heap.size := (by have h_ := hd1.size; simpa using h_); clear hd1)
  refine bodyPost_ret (results_none rfl _ _ _) rfl ⟨rfl, ?_, Grow2.of (HB.out.alloc HB.out.size _)⟩
  have hF := hG.out.below (HB.out.alloc HB.out.size (.cells #[.int .i64 d] 3))
  exact ⟨hF.c0, hF.c1, hF.mn.mono (Nat.le_succ _), hF.mc.mono (Nat.le_succ _), hF.d1⟩
set_option maxHeartbeats 4000000 in
set_option maxRecDepth 100000 in
theorem learn1 (g nb cb cnt : Nat) (m c : Fn) (x : S30) (A : Option Addr) (k : Nat) (hx : WfOp x) (hd : wf (setsI x)) (hcnt : cnt + 1 < maxLen) (w : World) (hF : IsFacts w g nb cb cnt m c) (hr : Kd.C (Kd.int .i64) w A x.f5.length x.f5) (hk : x.f5.length ≤ k) (h0 : (setsI x == 0) = false) (hq1 : (x.f0 == 1) = true) :
    Calls Try.prog 56 #[.pointer (some ⟨g, 0, none⟩), opV x (.slice A x.f5.length k)] w (LearnPost w g nb cb cnt (put (del m (setsI x)) (setsI x) x.f4) (strike (del c (setsI x)) (setsI x))) := by
  have hS : ∀ W, Below w.heap.size w W → Calls Try.prog 31 #[.agg #[.int .i64 x.f0, .int .i64 x.f1, .int .i64 x.f2, .int .i64 x.f3, .int .i64 x.f4, .slice A x.f5.length k]] W fun e w' => e = .returned (.int .i64 (setsI x)) ∧ Below W.heap.size W w' := fun W h => code_Sets.calls 9 x.f0 x.f1 x.f2 x.f3 x.f4 A k x.f5 (setsI x) W (Kd.C_below hr h) hk (sets_some x)
  generalize setsI x = d at *
  have hG := Aside0.mk hF
  have w2 := hx.h2
  have w4 := hx.h4
  have hW2 := Aside0.mk w2
  have hW4 := Aside0.mk w4
  have hkey := key3 hd
  clear hF hr hk hx w2 w4 hd
  unfold opV
  go_enter Try.func56, Try.ntmps56
  go_wp2_with (go_at_call 31; refine (hS _ ?hb).mono ?_; (case hb => exact (Below.refl w.heap.size w).alloc (Nat.le_refl _) _); rintro e w1 ⟨rfl, hd1⟩; have HB := Aside0.mk (((Below.refl w.heap.size w).alloc (Nat.le_refl _) _).trans (hd1.mono (by simp))); have hc1 : ∀ b o, b < w.heap.size + 1 → w1.cell? ⟨b, o, none⟩ = (w.alloc (.cells #[.int .i64 x.f0, .int .i64 x.f1, .int .i64 x.f2, .int .i64 x.f3, .int .i64 x.f4, .slice A x.f5.length k] 30)).cell? ⟨b, o, none⟩ := (fun b o h => hd1.cell (p := ⟨b, o, none⟩) (by simpa using h)); have hz1 : w.heap.size + 1 ≤ w1.heap.size := (by have h_ := hd1.size; simpa using h_); clear hd1)
  have hL : Aside0 (LS w (w1.alloc (.cells #[.int .i64 d] 3)) g nb cb cnt cnt m c x w.heap.size w1.heap.size d) := Aside0.mk (by
    have hb := HB.out.alloc HB.out.size (.cells #[.int .i64 d] 3)
    have hF := hG.out.below hb
    have lt : ∀ b i, b < w.heap.size + 1 → (w1.alloc (.cells #[.int .i64 d] 3)).cell? ⟨b, i, none⟩ = w1.cell? ⟨b, i, none⟩ := fun b i h => World.cell?_alloc_lt _ _ _ (show b < w1.heap.size by omega)
    exact ⟨hF.c0, hF.c1, hF.mn, hF.mc, hF.d1, Grow2.of hb, (lt _ _ (by omega)).trans ((hc1 _ 0 (by omega)).trans (by simp)), (lt _ _ (by omega)).trans ((hc1 _ 2 (by omega)).trans (by simp)), (lt _ _ (by omega)).trans ((hc1 _ 4 (by omega)).trans (by simp)), by simp⟩)
  have hBd : w.heap.size + 1 ≤ w1.heap.size := hz1
  generalize w1.alloc (.cells #[.int .i64 d] 3) = W2 at *
  generalize w1.heap.size = Bd at *
  generalize hB0 : w.heap.size = B at *
  clear hc1 hz1 HB hG hS
  obtain ⟨r0, r1, r2, r3, r4, r5⟩ : (_ ∧ _ ∧ _ ∧ _ ∧ _ ∧ _) := ⟨hL.out.c0, hL.out.c1, hL.out.x0, hL.out.x2, hL.out.x4, hL.out.bd⟩
  go_still_tail 5, (by kernel_rfl)
  change wpList _ _ _ _ _ W2.drew
  clear r0 r1 r2 r3 r4 r5
  replace hL := Aside0.mk hL.out.drew
  generalize W2.drew = W3 at *
  obtain ⟨D, hD, hT⟩ := hL.out.mn.ex
  replace hD := Aside0.mk hD
  replace hT := Aside0.mk hT
  go_wp2_with (at_delete; refine wpList_delete_own _ rfl _ _ 81 3 rfl 3 law3 Try.underlying81 _ nb cnt D rfl hD.out _ _ rfl hkey ?_; intro W4 hown hturn; have hN := Aside0.mk (hL.out.step (.inl rfl) hturn.grown (del_map (w := W4) hT.out hL.out.mn.ok d hown) (hL.out.mc.grown hturn.grown (Ne.symm hL.out.d1))); clear hL; have hL := hN; clear hN hown hturn; obtain ⟨r0, r1, r2, r3, r4, r5⟩ : (_ ∧ _ ∧ _ ∧ _ ∧ _ ∧ _) := ⟨hL.out.c0, hL.out.c1, hL.out.x0, hL.out.x2, hL.out.x4, hL.out.bd⟩)
  go_still_tail 5, (by kernel_rfl)
  change wpList _ _ _ _ _ W4.drew
  clear r0 r1 r2 r3 r4 r5
  replace hL := Aside0.mk hL.out.drew
  clear hD hT
  generalize W4.drew = W5 at *
  obtain ⟨D, hD, hT⟩ := hL.out.mc.ex
  replace hD := Aside0.mk hD
  replace hT := Aside0.mk hT
  go_wp2_with (first | (at_delete; refine wpList_delete_own _ rfl _ _ 80 3 rfl 3 law3 Try.underlying80 _ cb cnt D rfl hD.out _ _ rfl hkey ?_; intro W6 hown hturn; have hN := Aside0.mk (hL.out.step (.inr rfl) hturn.grown (hL.out.mn.grown hturn.grown hL.out.d1) (del_map (w := W6) hT.out hL.out.mc.ok d hown)); clear hL; have hL := hN; clear hN hown hturn; obtain ⟨r0, r1, r2, r3, r4, r5⟩ : (_ ∧ _ ∧ _ ∧ _ ∧ _ ∧ _) := ⟨hL.out.c0, hL.out.c1, hL.out.x0, hL.out.x2, hL.out.x4, hL.out.bd⟩) | (go_at_call 80; refine (strike_any cb cnt _ d Bd _ hL.out.mc r5 (no_map hL.out.mc r5)).mono ?_; rintro e W7 ⟨rfl, hmc, hg⟩; have hN := Aside0.mk (hL.out.step (.inr rfl) hg (hL.out.mn.grown hg hL.out.d1) hmc); clear hL; have hL := hN; clear hN hmc hg; obtain ⟨r0, r1, r2, r3, r4, r5⟩ : (_ ∧ _ ∧ _ ∧ _ ∧ _ ∧ _) := ⟨hL.out.c0, hL.out.c1, hL.out.x0, hL.out.x2, hL.out.x4, hL.out.bd⟩))
  clear hD hT
  go_still_tail 7, (by kernel_rfl)
  change wpList _ _ _ _ _ W7.drew
  clear r0 r1 r2 r3 r4 r5
  replace hL := Aside0.mk hL.out.drew
  generalize W7.drew = W8 at *
  obtain ⟨D, hD, hT⟩ := hL.out.mn.ex
  replace hD := Aside0.mk hD
  replace hT := Aside0.mk hT
  have hval : plainElem (H := Unit) Try.prog 3 (.int .i64 x.f4) = some (.lit (.int .i64 x.f4), []) := plainElem_int Try.underlying3 hW4.out
  go_wp2_with (at_mapUpdate; refine wpList_mapUpdate_own _ rfl _ _ _ 81 rfl 3 3 law3 Try.underlying81 _ nb cnt _ rfl hD.out (by omega) _ _ _ rfl rfl hkey _ [] hval ?_; intro W9 hown hgrow; have hN := Aside0.mk (hL.out.step (.inl rfl) hgrow (put_map hD.out hT.out hL.out.mn.ok d x.f4 hW4.out hown) (hL.out.mc.grown hgrow (Ne.symm hL.out.d1))); clear hL; have hL := hN; clear hN hown hgrow)
  refine bodyPost_ret (results_none rfl _ _ _) rfl ⟨rfl, hL.out.facts (by omega) (by omega), hL.out.gr⟩
set_option maxHeartbeats 4000000 in
set_option maxRecDepth 100000 in
theorem learn2 (g nb cb cnt : Nat) (m c : Fn) (x : S30) (A : Option Addr) (k : Nat) (hx : WfOp x) (hd : wf (setsI x)) (hcnt : cnt + 1 < maxLen) (w : World) (hF : IsFacts w g nb cb cnt m c) (hr : Kd.C (Kd.int .i64) w A x.f5.length x.f5) (hk : x.f5.length ≤ k) (h0 : (setsI x == 0) = false) (hq1 : (x.f0 == 1) = false) (hq3 : (x.f0 == 3) = true) (hne : (x.f2 != setsI x) = true) :
    Calls Try.prog 56 #[.pointer (some ⟨g, 0, none⟩), opV x (.slice A x.f5.length k)] w (LearnPost w g nb cb cnt (del m (setsI x)) (put (strike (del c (setsI x)) (setsI x)) (setsI x) x.f2)) := by
  have hS : ∀ W, Below w.heap.size w W → Calls Try.prog 31 #[.agg #[.int .i64 x.f0, .int .i64 x.f1, .int .i64 x.f2, .int .i64 x.f3, .int .i64 x.f4, .slice A x.f5.length k]] W fun e w' => e = .returned (.int .i64 (setsI x)) ∧ Below W.heap.size W w' := fun W h => code_Sets.calls 9 x.f0 x.f1 x.f2 x.f3 x.f4 A k x.f5 (setsI x) W (Kd.C_below hr h) hk (sets_some x)
  generalize setsI x = d at *
  have hG := Aside0.mk hF
  have w2 := hx.h2
  have w4 := hx.h4
  have hW2 := Aside0.mk w2
  have hW4 := Aside0.mk w4
  have hkey := key3 hd
  clear hF hr hk hx w2 w4 hd
  unfold opV
  go_enter Try.func56, Try.ntmps56
  go_wp2_with (go_at_call 31; refine (hS _ ?hb).mono ?_; (case hb => exact (Below.refl w.heap.size w).alloc (Nat.le_refl _) _); rintro e w1 ⟨rfl, hd1⟩; have HB := Aside0.mk (((Below.refl w.heap.size w).alloc (Nat.le_refl _) _).trans (hd1.mono (by simp))); have hc1 : ∀ b o, b < w.heap.size + 1 → w1.cell? ⟨b, o, none⟩ = (w.alloc (.cells #[.int .i64 x.f0, .int .i64 x.f1, .int .i64 x.f2, .int .i64 x.f3, .int .i64 x.f4, .slice A x.f5.length k] 30)).cell? ⟨b, o, none⟩ := (fun b o h => hd1.cell (p := ⟨b, o, none⟩) (by simpa using h)); have hz1 : w.heap.size + 1 ≤ w1.heap.size := (by have h_ := hd1.size; simpa using h_); clear hd1)
  have hL : Aside0 (LS w (w1.alloc (.cells #[.int .i64 d] 3)) g nb cb cnt cnt m c x w.heap.size w1.heap.size d) := Aside0.mk (by
    have hb := HB.out.alloc HB.out.size (.cells #[.int .i64 d] 3)
    have hF := hG.out.below hb
    have lt : ∀ b i, b < w.heap.size + 1 → (w1.alloc (.cells #[.int .i64 d] 3)).cell? ⟨b, i, none⟩ = w1.cell? ⟨b, i, none⟩ := fun b i h => World.cell?_alloc_lt _ _ _ (show b < w1.heap.size by omega)
    exact ⟨hF.c0, hF.c1, hF.mn, hF.mc, hF.d1, Grow2.of hb, (lt _ _ (by omega)).trans ((hc1 _ 0 (by omega)).trans (by simp)), (lt _ _ (by omega)).trans ((hc1 _ 2 (by omega)).trans (by simp)), (lt _ _ (by omega)).trans ((hc1 _ 4 (by omega)).trans (by simp)), by simp⟩)
  have hBd : w.heap.size + 1 ≤ w1.heap.size := hz1
  generalize w1.alloc (.cells #[.int .i64 d] 3) = W2 at *
  generalize w1.heap.size = Bd at *
  generalize hB0 : w.heap.size = B at *
  clear hc1 hz1 HB hG hS
  obtain ⟨r0, r1, r2, r3, r4, r5⟩ : (_ ∧ _ ∧ _ ∧ _ ∧ _ ∧ _) := ⟨hL.out.c0, hL.out.c1, hL.out.x0, hL.out.x2, hL.out.x4, hL.out.bd⟩
  go_still_tail 5, (by kernel_rfl)
  change wpList _ _ _ _ _ W2.drew
  clear r0 r1 r2 r3 r4 r5
  replace hL := Aside0.mk hL.out.drew
  generalize W2.drew = W3 at *
  obtain ⟨D, hD, hT⟩ := hL.out.mn.ex
  replace hD := Aside0.mk hD
  replace hT := Aside0.mk hT
  go_wp2_with (at_delete; refine wpList_delete_own _ rfl _ _ 81 3 rfl 3 law3 Try.underlying81 _ nb cnt D rfl hD.out _ _ rfl hkey ?_; intro W4 hown hturn; have hN := Aside0.mk (hL.out.step (.inl rfl) hturn.grown (del_map (w := W4) hT.out hL.out.mn.ok d hown) (hL.out.mc.grown hturn.grown (Ne.symm hL.out.d1))); clear hL; have hL := hN; clear hN hown hturn; obtain ⟨r0, r1, r2, r3, r4, r5⟩ : (_ ∧ _ ∧ _ ∧ _ ∧ _ ∧ _) := ⟨hL.out.c0, hL.out.c1, hL.out.x0, hL.out.x2, hL.out.x4, hL.out.bd⟩)
  go_still_tail 5, (by kernel_rfl)
  change wpList _ _ _ _ _ W4.drew
  clear r0 r1 r2 r3 r4 r5
  replace hL := Aside0.mk hL.out.drew
  clear hD hT
  generalize W4.drew = W5 at *
  obtain ⟨D, hD, hT⟩ := hL.out.mc.ex
  replace hD := Aside0.mk hD
  replace hT := Aside0.mk hT
  go_wp2_with (first | (at_delete; refine wpList_delete_own _ rfl _ _ 80 3 rfl 3 law3 Try.underlying80 _ cb cnt D rfl hD.out _ _ rfl hkey ?_; intro W6 hown hturn; have hN := Aside0.mk (hL.out.step (.inr rfl) hturn.grown (hL.out.mn.grown hturn.grown hL.out.d1) (del_map (w := W6) hT.out hL.out.mc.ok d hown)); clear hL; have hL := hN; clear hN hown hturn; obtain ⟨r0, r1, r2, r3, r4, r5⟩ : (_ ∧ _ ∧ _ ∧ _ ∧ _ ∧ _) := ⟨hL.out.c0, hL.out.c1, hL.out.x0, hL.out.x2, hL.out.x4, hL.out.bd⟩) | (go_at_call 80; refine (strike_any cb cnt _ d Bd _ hL.out.mc r5 (no_map hL.out.mc r5)).mono ?_; rintro e W7 ⟨rfl, hmc, hg⟩; have hN := Aside0.mk (hL.out.step (.inr rfl) hg (hL.out.mn.grown hg hL.out.d1) hmc); clear hL; have hL := hN; clear hN hmc hg; obtain ⟨r0, r1, r2, r3, r4, r5⟩ : (_ ∧ _ ∧ _ ∧ _ ∧ _ ∧ _) := ⟨hL.out.c0, hL.out.c1, hL.out.x0, hL.out.x2, hL.out.x4, hL.out.bd⟩))
  clear hD hT
  go_still_tail 7, (by kernel_rfl)
  change wpList _ _ _ _ _ W7.drew
  clear r0 r1 r2 r3 r4 r5
  replace hL := Aside0.mk hL.out.drew
  generalize W7.drew = W8 at *
  obtain ⟨D, hD, hT⟩ := hL.out.mc.ex
  replace hD := Aside0.mk hD
  replace hT := Aside0.mk hT
  have hval : plainElem (H := Unit) Try.prog 3 (.int .i64 x.f2) = some (.lit (.int .i64 x.f2), []) := plainElem_int Try.underlying3 hW2.out
  go_wp2_with (at_mapUpdate; refine wpList_mapUpdate_own _ rfl _ _ _ 80 rfl 3 3 law3 Try.underlying80 _ cb cnt _ rfl hD.out (by omega) _ _ _ rfl rfl hkey _ [] hval ?_; intro W9 hown hgrow; have hN := Aside0.mk (hL.out.step (.inr rfl) hgrow (hL.out.mn.grown hgrow hL.out.d1) (put_map hD.out hT.out hL.out.mc.ok d x.f2 hW2.out hown)); clear hL; have hL := hN; clear hN hown hgrow)
  refine bodyPost_ret (results_none rfl _ _ _) rfl ⟨rfl, hL.out.facts (by omega) (by omega), hL.out.gr⟩
set_option maxHeartbeats 4000000 in
set_option maxRecDepth 100000 in
theorem learn3 (g nb cb cnt : Nat) (m c : Fn) (x : S30) (A : Option Addr) (k : Nat) (hx : WfOp x) (hd : wf (setsI x)) (hcnt : cnt + 1 < maxLen) (w : World) (hF : IsFacts w g nb cb cnt m c) (hr : Kd.C (Kd.int .i64) w A x.f5.length x.f5) (hk : x.f5.length ≤ k) (h0 : (setsI x == 0) = false) (hq1 : (x.f0 == 1) = false) (hq3 : (x.f0 == 3) = true) (hne : (x.f2 != setsI x) = false) :
    Calls Try.prog 56 #[.pointer (some ⟨g, 0, none⟩), opV x (.slice A x.f5.length k)] w (LearnPost w g nb cb cnt (del m (setsI x)) (strike (del c (setsI x)) (setsI x))) := by
  have hS : ∀ W, Below w.heap.size w W → Calls Try.prog 31 #[.agg #[.int .i64 x.f0, .int .i64 x.f1, .int .i64 x.f2, .int .i64 x.f3, .int .i64 x.f4, .slice A x.f5.length k]] W fun e w' => e = .returned (.int .i64 (setsI x)) ∧ Below W.heap.size W w' := fun W h => code_Sets.calls 9 x.f0 x.f1 x.f2 x.f3 x.f4 A k x.f5 (setsI x) W (Kd.C_below hr h) hk (sets_some x)
  generalize setsI x = d at *
  have hG := Aside0.mk hF
  have w2 := hx.h2
  have w4 := hx.h4
  have hW2 := Aside0.mk w2
  have hW4 := Aside0.mk w4
  have hkey := key3 hd
  clear hF hr hk hx w2 w4 hd
  unfold opV
  go_enter Try.func56, Try.ntmps56
  go_wp2_with (go_at_call 31; refine (hS _ ?hb).mono ?_; (case hb => exact (Below.refl w.heap.size w).alloc (Nat.le_refl _) _); rintro e w1 ⟨rfl, hd1⟩; have HB := Aside0.mk (((Below.refl w.heap.size w).alloc (Nat.le_refl _) _).trans (hd1.mono (by simp))); have hc1 : ∀ b o, b < w.heap.size + 1 → w1.cell? ⟨b, o, none⟩ = (w.alloc (.cells #[.int .i64 x.f0, .int .i64 x.f1, .int .i64 x.f2, .int .i64 x.f3, .int .i64 x.f4, .slice A x.f5.length k] 30)).cell? ⟨b, o, none⟩ := (fun b o h => hd1.cell (p := ⟨b, o, none⟩) (by simpa using h)); have hz1 : w.heap.size + 1 ≤ w1.heap.size := (by have h_ := hd1.size; simpa using h_); clear hd1)
  have hL : Aside0 (LS w (w1.alloc (.cells #[.int .i64 d] 3)) g nb cb cnt cnt m c x w.heap.size w1.heap.size d) := Aside0.mk (by
    have hb := HB.out.alloc HB.out.size (.cells #[.int .i64 d] 3)
    have hF := hG.out.below hb
    have lt : ∀ b i, b < w.heap.size + 1 → (w1.alloc (.cells #[.int .i64 d] 3)).cell? ⟨b, i, none⟩ = w1.cell? ⟨b, i, none⟩ := fun b i h => World.cell?_alloc_lt _ _ _ (show b < w1.heap.size by omega)
    exact ⟨hF.c0, hF.c1, hF.mn, hF.mc, hF.d1, Grow2.of hb, (lt _ _ (by omega)).trans ((hc1 _ 0 (by omega)).trans (by simp)), (lt _ _ (by omega)).trans ((hc1 _ 2 (by omega)).trans (by simp)), (lt _ _ (by omega)).trans ((hc1 _ 4 (by omega)).trans (by simp)), by simp⟩)
  have hBd : w.heap.size + 1 ≤ w1.heap.size := hz1
  generalize w1.alloc (.cells #[.int .i64 d] 3) = W2 at *
  generalize w1.heap.size = Bd at *
  generalize hB0 : w.heap.size = B at *
  clear hc1 hz1 HB hG hS
  obtain ⟨r0, r1, r2, r3, r4, r5⟩ : (_ ∧ _ ∧ _ ∧ _ ∧ _ ∧ _) := ⟨hL.out.c0, hL.out.c1, hL.out.x0, hL.out.x2, hL.out.x4, hL.out.bd⟩
  go_still_tail 5, (by kernel_rfl)
  change wpList _ _ _ _ _ W2.drew
  clear r0 r1 r2 r3 r4 r5
  replace hL := Aside0.mk hL.out.drew
  generalize W2.drew = W3 at *
  obtain ⟨D, hD, hT⟩ := hL.out.mn.ex
  replace hD := Aside0.mk hD
  replace hT := Aside0.mk hT
  go_wp2_with (at_delete; refine wpList_delete_own _ rfl _ _ 81 3 rfl 3 law3 Try.underlying81 _ nb cnt D rfl hD.out _ _ rfl hkey ?_; intro W4 hown hturn; have hN := Aside0.mk (hL.out.step (.inl rfl) hturn.grown (del_map (w := W4) hT.out hL.out.mn.ok d hown) (hL.out.mc.grown hturn.grown (Ne.symm hL.out.d1))); clear hL; have hL := hN; clear hN hown hturn; obtain ⟨r0, r1, r2, r3, r4, r5⟩ : (_ ∧ _ ∧ _ ∧ _ ∧ _ ∧ _) := ⟨hL.out.c0, hL.out.c1, hL.out.x0, hL.out.x2, hL.out.x4, hL.out.bd⟩)
  go_still_tail 5, (by kernel_rfl)
  change wpList _ _ _ _ _ W4.drew
  clear r0 r1 r2 r3 r4 r5
  replace hL := Aside0.mk hL.out.drew
  clear hD hT
  generalize W4.drew = W5 at *
  obtain ⟨D, hD, hT⟩ := hL.out.mc.ex
  replace hD := Aside0.mk hD
  replace hT := Aside0.mk hT
  go_wp2_with (first | (at_delete; refine wpList_delete_own _ rfl _ _ 80 3 rfl 3 law3 Try.underlying80 _ cb cnt D rfl hD.out _ _ rfl hkey ?_; intro W6 hown hturn; have hN := Aside0.mk (hL.out.step (.inr rfl) hturn.grown (hL.out.mn.grown hturn.grown hL.out.d1) (del_map (w := W6) hT.out hL.out.mc.ok d hown)); clear hL; have hL := hN; clear hN hown hturn; obtain ⟨r0, r1, r2, r3, r4, r5⟩ : (_ ∧ _ ∧ _ ∧ _ ∧ _ ∧ _) := ⟨hL.out.c0, hL.out.c1, hL.out.x0, hL.out.x2, hL.out.x4, hL.out.bd⟩) | (go_at_call 80; refine (strike_any cb cnt _ d Bd _ hL.out.mc r5 (no_map hL.out.mc r5)).mono ?_; rintro e W7 ⟨rfl, hmc, hg⟩; have hN := Aside0.mk (hL.out.step (.inr rfl) hg (hL.out.mn.grown hg hL.out.d1) hmc); clear hL; have hL := hN; clear hN hmc hg; obtain ⟨r0, r1, r2, r3, r4, r5⟩ : (_ ∧ _ ∧ _ ∧ _ ∧ _ ∧ _) := ⟨hL.out.c0, hL.out.c1, hL.out.x0, hL.out.x2, hL.out.x4, hL.out.bd⟩))
  clear hD hT
  refine bodyPost_ret (results_none rfl _ _ _) rfl ⟨rfl, hL.out.facts (by omega) (by omega), hL.out.gr⟩
set_option maxHeartbeats 4000000 in
set_option maxRecDepth 100000 in
theorem learn4 (g nb cb cnt : Nat) (m c : Fn) (x : S30) (A : Option Addr) (k : Nat) (hx : WfOp x) (hd : wf (setsI x)) (hcnt : cnt + 1 < maxLen) (w : World) (hF : IsFacts w g nb cb cnt m c) (hr : Kd.C (Kd.int .i64) w A x.f5.length x.f5) (hk : x.f5.length ≤ k) (h0 : (setsI x == 0) = false) (hq1 : (x.f0 == 1) = false) (hq3 : (x.f0 == 3) = false) :
    Calls Try.prog 56 #[.pointer (some ⟨g, 0, none⟩), opV x (.slice A x.f5.length k)] w (LearnPost w g nb cb cnt (del m (setsI x)) (strike (del c (setsI x)) (setsI x))) := by
  have hS : ∀ W, Below w.heap.size w W → Calls Try.prog 31 #[.agg #[.int .i64 x.f0, .int .i64 x.f1, .int .i64 x.f2, .int .i64 x.f3, .int .i64 x.f4, .slice A x.f5.length k]] W fun e w' => e = .returned (.int .i64 (setsI x)) ∧ Below W.heap.size W w' := fun W h => code_Sets.calls 9 x.f0 x.f1 x.f2 x.f3 x.f4 A k x.f5 (setsI x) W (Kd.C_below hr h) hk (sets_some x)
  generalize setsI x = d at *
  have hG := Aside0.mk hF
  have w2 := hx.h2
  have w4 := hx.h4
  have hW2 := Aside0.mk w2
  have hW4 := Aside0.mk w4
  have hkey := key3 hd
  clear hF hr hk hx w2 w4 hd
  unfold opV
  go_enter Try.func56, Try.ntmps56
  go_wp2_with (go_at_call 31; refine (hS _ ?hb).mono ?_; (case hb => exact (Below.refl w.heap.size w).alloc (Nat.le_refl _) _); rintro e w1 ⟨rfl, hd1⟩; have HB := Aside0.mk (((Below.refl w.heap.size w).alloc (Nat.le_refl _) _).trans (hd1.mono (by simp))); have hc1 : ∀ b o, b < w.heap.size + 1 → w1.cell? ⟨b, o, none⟩ = (w.alloc (.cells #[.int .i64 x.f0, .int .i64 x.f1, .int .i64 x.f2, .int .i64 x.f3, .int .i64 x.f4, .slice A x.f5.length k] 30)).cell? ⟨b, o, none⟩ := (fun b o h => hd1.cell (p := ⟨b, o, none⟩) (by simpa using h)); have hz1 : w.heap.size + 1 ≤ w1.heap.size := (by have h_ := hd1.size; simpa using h_); clear hd1)
  have hL : Aside0 (LS w (w1.alloc (.cells #[.int .i64 d] 3)) g nb cb cnt cnt m c x w.heap.size w1.heap.size d) := Aside0.mk (by
    have hb := HB.out.alloc HB.out.size (.cells #[.int .i64 d] 3)
    have hF := hG.out.below hb
    have lt : ∀ b i, b < w.heap.size + 1 → (w1.alloc (.cells #[.int .i64 d] 3)).cell? ⟨b, i, none⟩ = w1.cell? ⟨b, i, none⟩ := fun b i h => World.cell?_alloc_lt _ _ _ (show b < w1.heap.size by omega)
    exact ⟨hF.c0, hF.c1, hF.mn, hF.mc, hF.d1, Grow2.of hb, (lt _ _ (by omega)).trans ((hc1 _ 0 (by omega)).trans (by simp)), (lt _ _ (by omega)).trans ((hc1 _ 2 (by omega)).trans (by simp)), (lt _ _ (by omega)).trans ((hc1 _ 4 (by omega)).trans (by simp)), by simp⟩)
  have hBd : w.heap.size + 1 ≤ w1.heap.size := hz1
  generalize w1.alloc (.cells #[.int .i64 d] 3) = W2 at *
  generalize w1.heap.size = Bd at *
  generalize hB0 : w.heap.size = B at *
  clear hc1 hz1 HB hG hS
  obtain ⟨r0, r1, r2, r3, r4, r5⟩ : (_ ∧ _ ∧ _ ∧ _ ∧ _ ∧ _) := ⟨hL.out.c0, hL.out.c1, hL.out.x0, hL.out.x2, hL.out.x4, hL.out.bd⟩
  go_still_tail 5, (by kernel_rfl)
  change wpList _ _ _ _ _ W2.drew
  clear r0 r1 r2 r3 r4 r5
  replace hL := Aside0.mk hL.out.drew
  generalize W2.drew = W3 at *
  obtain ⟨D, hD, hT⟩ := hL.out.mn.ex
  replace hD := Aside0.mk hD
  replace hT := Aside0.mk hT
  go_wp2_with (at_delete; refine wpList_delete_own _ rfl _ _ 81 3 rfl 3 law3 Try.underlying81 _ nb cnt D rfl hD.out _ _ rfl hkey ?_; intro W4 hown hturn; have hN := Aside0.mk (hL.out.step (.inl rfl) hturn.grown (del_map (w := W4) hT.out hL.out.mn.ok d hown) (hL.out.mc.grown hturn.grown (Ne.symm hL.out.d1))); clear hL; have hL := hN; clear hN hown hturn; obtain ⟨r0, r1, r2, r3, r4, r5⟩ : (_ ∧ _ ∧ _ ∧ _ ∧ _ ∧ _) := ⟨hL.out.c0, hL.out.c1, hL.out.x0, hL.out.x2, hL.out.x4, hL.out.bd⟩)
  go_still_tail 5, (by kernel_rfl)
  change wpList _ _ _ _ _ W4.drew
  clear r0 r1 r2 r3 r4 r5
  replace hL := Aside0.mk hL.out.drew
  clear hD hT
  generalize W4.drew = W5 at *
  obtain ⟨D, hD, hT⟩ := hL.out.mc.ex
  replace hD := Aside0.mk hD
  replace hT := Aside0.mk hT
  go_wp2_with (first | (at_delete; refine wpList_delete_own _ rfl _ _ 80 3 rfl 3 law3 Try.underlying80 _ cb cnt D rfl hD.out _ _ rfl hkey ?_; intro W6 hown hturn; have hN := Aside0.mk (hL.out.step (.inr rfl) hturn.grown (hL.out.mn.grown hturn.grown hL.out.d1) (del_map (w := W6) hT.out hL.out.mc.ok d hown)); clear hL; have hL := hN; clear hN hown hturn; obtain ⟨r0, r1, r2, r3, r4, r5⟩ : (_ ∧ _ ∧ _ ∧ _ ∧ _ ∧ _) := ⟨hL.out.c0, hL.out.c1, hL.out.x0, hL.out.x2, hL.out.x4, hL.out.bd⟩) | (go_at_call 80; refine (strike_any cb cnt _ d Bd _ hL.out.mc r5 (no_map hL.out.mc r5)).mono ?_; rintro e W7 ⟨rfl, hmc, hg⟩; have hN := Aside0.mk (hL.out.step (.inr rfl) hg (hL.out.mn.grown hg hL.out.d1) hmc); clear hL; have hL := hN; clear hN hmc hg; obtain ⟨r0, r1, r2, r3, r4, r5⟩ : (_ ∧ _ ∧ _ ∧ _ ∧ _ ∧ _) := ⟨hL.out.c0, hL.out.c1, hL.out.x0, hL.out.x2, hL.out.x4, hL.out.bd⟩))
  clear hD hT
  refine bodyPost_ret (results_none rfl _ _ _) rfl ⟨rfl, hL.out.facts (by omega) (by omega), hL.out.gr⟩
end Go.Proofs.Ytmacdhkfgoahcaa.Fo
