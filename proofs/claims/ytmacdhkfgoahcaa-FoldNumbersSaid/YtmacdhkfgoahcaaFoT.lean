/- The law's constant part (swagelaw24.small), walked by hand. -/
import Derived.Test.YtmacdhkfgoahcaaFoS
import Derived.Test.YtmacdhkfgoahcaaQx3
import Derived.Test.YtmacdhkfgoahcaaQx5
set_option linter.unusedVariables false
set_option linter.unusedSimpArgs false
namespace Go.Proofs.Ytmacdhkfgoahcaa.Fo
open Go Go.RowKit Go.Maps Go.Proofs.Ytmacdhkfgoahcaa.Q Go.Proofs.YtmacdhkfgoahcaaW.PrintWords Go.Proofs.YtmacdhkfgoahcaaW.PrintLast Go.Proofs.YtmacdhkfgoahcaaW.PrintMore
def someL : List S30 := [(⟨1, 1, 0, 0, 4, ([] : List Int)⟩ : S30), (⟨3, 2, 1, 0, 0, ([] : List Int)⟩ : S30), (⟨2, 3, 2, 1, 1, ([] : List Int)⟩ : S30)]
def outL : List S30 := [(⟨1, 1, 0, 0, 4, ([] : List Int)⟩ : S30), (⟨1, 2, 0, 0, 4, ([] : List Int)⟩ : S30), (⟨1, 3, 0, 0, 8, ([] : List Int)⟩ : S30)]
theorem some_wf {x : S30} (hx : x ∈ someL) : WfOp x ∧ x.f5 = [] ∧ (x.f0 == 7) = false := by
  simp only [someL, List.mem_cons, List.not_mem_nil, or_false] at hx
  rcases hx with rfl | rfl | rfl <;> exact ⟨⟨by decide, by decide, by decide, by decide, fun r hr => by cases hr⟩, rfl, rfl⟩
theorem some_in : BIn someL ⟨2, 3, 1, 2⟩ := ⟨by decide, fun x hx => by rw [(some_wf hx).2.1]; decide, fun x hx => (some_wf hx).1, by decide, fun x hx => (some_wf hx).2.2⟩
theorem some_out : blockP someL ⟨2, 3, 1, 2⟩ = (outL, ⟨1, 0, 1, 0⟩) := by kernel_rfl
theorem op_out : opP (ofP [(1, 0)]) ⟨2, 3, 2, 1, 3, []⟩ = ⟨1, 3, 0, 0, 0, []⟩ := by kernel_rfl
theorem c_nil {α : Type} (d : Kd α) (w : World) (A : Option Addr) : Kd.C d w A 0 [] := ⟨rfl, by decide, fun h => absurd h (Nat.lt_irrefl _)⟩
theorem lit_C {α : Type} (d : Kd α) {W : World} {g : Nat} {t : TypeId} {cs : Array Value} {xs : List α} (hb : W.heap[g]? = some (.cells cs t (0, 0))) (hr : Reps (d.K W) d.sz xs cs.toList) (hn : xs.length ≤ 9223372036854775807) : Kd.C d W (some ⟨g, 0, none⟩) xs.length xs := by
  refine ⟨rfl, hn, fun _ => ⟨_, rfl, fun j p hj => ⟨(cs.toList.drop (j * d.sz)).take d.sz, ?_, hr.2 j p hj, fun i u hu => ?_⟩⟩⟩
  · have h1 : j < xs.length := by
      rcases Nat.lt_or_ge j xs.length with h | h
      · exact h
      · rw [List.getElem?_eq_none h] at hj; cases hj
    have h2 : (j + 1) * d.sz ≤ xs.length * d.sz := Nat.mul_le_mul_right _ h1
    rw [Nat.succ_mul] at h2
    have h3 := hr.1
    rw [List.length_take, List.length_drop]
    omega
  · rw [List.getElem?_take] at hu
    split at hu
    · rw [List.getElem?_drop] at hu
      have h1 := blk_cell hb (j * d.sz + i)
      rw [← Array.getElem?_toList, hu] at h1
      have e : (⟨g, 0, none⟩ : Addr).add (j * d.sz + i) = ⟨g, j * d.sz + i, none⟩ := by
        simp [Addr.add]
        intro h1 h2; rw [h1, h2]
      rw [e]; exact h1
    · cases hu
theorem out_reps (W : World) : Reps (k30.K W) 6 outL [.int .i64 1, .int .i64 1, .int .i64 0, .int .i64 0, .int .i64 4, .slice none 0 0, .int .i64 1, .int .i64 2, .int .i64 0, .int .i64 0, .int .i64 4, .slice none 0 0, .int .i64 1, .int .i64 3, .int .i64 0, .int .i64 0, .int .i64 8, .slice none 0 0] := by
  refine ⟨rfl, fun j p hj => ?_⟩
  match j, hj with
  | 0, hj => (obtain rfl := Option.some.inj hj; exact k30_mk W _ (c5 := 0) (Nat.le_refl 0) (c_nil _ W none))
  | 1, hj => (obtain rfl := Option.some.inj hj; exact k30_mk W _ (c5 := 0) (Nat.le_refl 0) (c_nil _ W none))
  | 2, hj => (obtain rfl := Option.some.inj hj; exact k30_mk W _ (c5 := 0) (Nat.le_refl 0) (c_nil _ W none))
  | j + 3, hj => cases hj
def blkS : S28 := ⟨outL, ⟨1, 0, 1, 0⟩⟩
theorem blk_reps (W : World) {A : Option Addr} {c : Nat} (hc : 3 ≤ c) (hr : Kd.C k30 W A 3 outL) : Reps (k28.K W) 5 [blkS] [.slice A 3 c, .int .i64 1, .int .i64 0, .int .i64 1, .int .i64 0] := by
  refine ⟨rfl, fun j p hj => ?_⟩
  match j, hj with
  | 0, hj => (obtain rfl := Option.some.inj hj; exact k28_mk W blkS hc hr)
  | j + 1, hj => cases hj
theorem same_out : ∃ k, swageref14_Same.f k 0 [blkS] 0 [blkS] = some true := ⟨20, by decide +kernel⟩
theorem sameop_out : ∃ k, swageref14_SameOp.f k 1 3 0 0 0 [] 1 3 0 0 0 [] = some true := ⟨20, by decide +kernel⟩
theorem neu1 : ∃ k, fold_Neutral.f k 6 (-1) = some true := ⟨9, by decide +kernel⟩
theorem neu2 : ∃ k, fold_Neutral.f k 6 1 = some false := ⟨9, by decide +kernel⟩
theorem blk_new' {w : World} {n : Nat} (h : w.heap.size = n) (o : Obj) : (w.alloc o).heap[n]? = some o := h ▸ blk_new w o
theorem pairs_lit {W : World} {g : Nat} (h : W.heap[g]? = some (.cells #[.int .i64 1, .int .i64 0] 76)) : Pairs W (some ⟨g, 0, none⟩) [(1, 0)] := fun j hj => by
  obtain rfl : j = 0 := by simpa using hj
  exact ⟨_, rfl, blk_lt h, (blk_cell h 0).trans rfl, (blk_cell h 1).trans rfl⟩
set_option maxHeartbeats 8000000 in
set_option maxRecDepth 100000 in
theorem small_any (w : World) : Calls Try.prog 26 #[] w fun e w' => e = .returned (.bool true) ∧ Below w.heap.size w w' := by
  have h51 := fun W => swagelaw24_some.calls _ _ _ _ _ W rfl
  have h28 := fun A cp W hr hc => block_any A cp someL ⟨2, 3, 1, 2⟩ W hr hc some_in
  rw [some_out] at h28
  have h52 := fun A2 cp W hp => Op_any ⟨2, 3, 2, 1, 3, []⟩ none 0 A2 cp [(1, 0)] W ⟨by decide, by decide, by decide, by decide, fun r hr => by cases hr⟩ (c_nil _ _ _) (by decide) hp (fun p hp => by rw [List.mem_singleton.1 hp]; decide) (by decide)
  rw [op_out] at h52
  unfold BlockPost at h28
  unfold OpPost opV at h52
  have h16 : ∀ A c A' c' W, Kd.C k28 W A 1 [blkS] → 1 ≤ c → Kd.C k28 W A' 1 [blkS] → 1 ≤ c' → Calls Try.prog 16 #[.agg #[.int .i64 0, .slice A 1 c], .agg #[.int .i64 0, .slice A' 1 c']] W fun e w' => e = .returned (.bool true) ∧ Below W.heap.size W w' := fun A c A' c' W h1 h2 h3 h4 => by
    obtain ⟨k, hk⟩ := same_out
    exact swageref14_Same.calls k 0 A c [blkS] 0 A' c' [blkS] true W h1 h2 h3 h4 hk
  have h21 : ∀ A c A' c' W, Calls Try.prog 21 #[.agg #[.int .i64 1, .int .i64 3, .int .i64 0, .int .i64 0, .int .i64 0, .slice A 0 c], .agg #[.int .i64 1, .int .i64 3, .int .i64 0, .int .i64 0, .int .i64 0, .slice A' 0 c']] W fun e w' => e = .returned (.bool true) ∧ Below W.heap.size W w' := fun A c A' c' W => by
    obtain ⟨k, hk⟩ := sameop_out
    exact swageref14_SameOp.calls k 1 3 0 0 0 A c [] 1 3 0 0 0 A' c' [] true W (c_nil _ _ _) (Nat.zero_le _) (c_nil _ _ _) (Nat.zero_le _) hk
  have h53a : ∀ W, Calls Try.prog 53 #[.int .i64 6, .int .i64 (-1)] W fun e w' => e = .returned (.bool true) ∧ Drawn0 W w' := fun W => by
    obtain ⟨k, hk⟩ := neu1
    exact fold_Neutral.calls k 6 (-1) true W hk
  have h53b : ∀ W, Calls Try.prog 53 #[.int .i64 6, .int .i64 1] W fun e w' => e = .returned (.bool false) ∧ Drawn0 W w' := fun W => by
    obtain ⟨k, hk⟩ := neu2
    exact fold_Neutral.calls k 6 1 false W hk
  go_enter Try.func26, Try.ntmps26
  go_wp2_with (first
    | (go_at_call 51; refine (h51 _).mono ?_; rintro e w1 ⟨v1, rfl, hs1, hb1⟩; obtain ⟨A1, n1, rfl, hl1, hc1⟩ := Kd.S_reads hs1; clear hs1)
    | (go_at_call 28; refine (h28 _ _ _ hc1 hl1).mono ?_; rintro e w2 ⟨v2, rfl, hr2, hb2⟩; obtain ⟨A2, n2, rfl, hl2, hc2⟩ := Kd.R_reads hr2; have HB2 := Aside0.mk (hb1.trans (hb2.mono hb1.size)); have HC2 := Aside0.mk hc2; have HL2 := Aside0.mk hl2; clear hr2 hb2 hb1 hl1 hc1 hc2 hl2; dsimp only)
    | (go_at_call 52; refine (h52 _ _ _ ?hp).mono ?_; (case hp => exact pairs_lit (blk_new' (by simp only [World.size_alloc]) _)); rintro e w3 ⟨v3, rfl, hr3, hb3⟩; obtain ⟨A3, n3, rfl, hl3, hc3⟩ := Kd.R_reads hr3;
       have hz3 := Aside0.mk (show w2.heap.size + 4 ≤ w3.heap.size by have h_ := hb3.size; simp only [World.size_alloc] at h_; omega);
       have hz3a : w2.heap.size < w3.heap.size := (by have := hz3.out; omega); have hz3c : w2.heap.size + 1 + 1 < w3.heap.size + 1 := (by have := hz3.out; omega); have hz3b : w2.heap.size + 1 + 1 < w3.heap.size := (by have := hz3.out; omega);
       have q0 : w3.heap[w2.heap.size]? = some (.cells #[.slice A2 outL.length n2, .int .i64 1, .int .i64 0, .int .i64 1, .int .i64 0] 28) := (hb3.block _ (by simp only [World.size_alloc]; omega)).trans (blk_alloc (blk_alloc (blk_alloc (blk_new w2 _) _) _) _);
       have q1 := Aside0.mk (show w3.heap[w2.heap.size + 1]? = some (.cells #[.int .i64 1, .int .i64 1, .int .i64 0, .int .i64 0, .int .i64 4, .slice none 0 0, .int .i64 1, .int .i64 2, .int .i64 0, .int .i64 0, .int .i64 4, .slice none 0 0, .int .i64 1, .int .i64 3, .int .i64 0, .int .i64 0, .int .i64 8, .slice none 0 0] 30) from (hb3.block _ (by simp only [World.size_alloc]; omega)).trans (blk_alloc (blk_alloc (blk_new' (World.size_alloc w2 _) _) _) _));
       have q2 : w3.heap[w2.heap.size + 1 + 1]? = some (.cells #[.slice (some ⟨w2.heap.size + 1, 0, none⟩) 3 3, .int .i64 1, .int .i64 0, .int .i64 1, .int .i64 0] 28) := (hb3.block _ (by simp only [World.size_alloc]; omega)).trans (blk_alloc (blk_new' (by simp only [World.size_alloc]) _) _);
       have HB3 := Aside0.mk (show Below w.heap.size w w3 from ((((HB2.out.alloc HB2.out.size _).alloc (by simp only [World.size_alloc]; have := HB2.out.size; omega) _).alloc (by simp only [World.size_alloc]; have := HB2.out.size; omega) _).alloc (by simp only [World.size_alloc]; have := HB2.out.size; omega) _).trans (hb3.mono (by simp only [World.size_alloc]; have := HB2.out.size; omega)));
       have HC3 := Aside0.mk (show Kd.C k30 w3 A2 3 outL from Kd.C_below HC2.out ((((((Below.refl w2.heap.size w2).alloc (Nat.le_refl _) _).alloc (by simp only [World.size_alloc]; omega) _).alloc (by simp only [World.size_alloc]; omega) _).alloc (by simp only [World.size_alloc]; omega) _).trans (hb3.mono (by simp only [World.size_alloc]; omega))));
       have y0 : w3.cell? ⟨w2.heap.size, 0, none⟩ = some (.slice A2 outL.length n2) := (blk_cell q0 0).trans rfl; have y1 : w3.cell? ⟨w2.heap.size, 1, none⟩ = some (.int .i64 1) := (blk_cell q0 1).trans rfl; have y2 : w3.cell? ⟨w2.heap.size, 2, none⟩ = some (.int .i64 0) := (blk_cell q0 2).trans rfl; have y3 : w3.cell? ⟨w2.heap.size, 3, none⟩ = some (.int .i64 1) := (blk_cell q0 3).trans rfl; have y4 : w3.cell? ⟨w2.heap.size, 4, none⟩ = some (.int .i64 0) := (blk_cell q0 4).trans rfl;
       have z0 : w3.cell? ⟨w2.heap.size + 1 + 1, 0, none⟩ = some (.slice (some ⟨w2.heap.size + 1, 0, none⟩) 3 3) := (blk_cell q2 0).trans rfl; have z1 : w3.cell? ⟨w2.heap.size + 1 + 1, 1, none⟩ = some (.int .i64 1) := (blk_cell q2 1).trans rfl; have z2 : w3.cell? ⟨w2.heap.size + 1 + 1, 2, none⟩ = some (.int .i64 0) := (blk_cell q2 2).trans rfl; have z3 : w3.cell? ⟨w2.heap.size + 1 + 1, 3, none⟩ = some (.int .i64 1) := (blk_cell q2 3).trans rfl; have z4 : w3.cell? ⟨w2.heap.size + 1 + 1, 4, none⟩ = some (.int .i64 0) := (blk_cell q2 4).trans rfl;
       clear hr3 hb3 hl3 hc3 q0 q2 HB2 HC2; dsimp only)
    | (go_at_call 16; refine (h16 _ _ _ _ _ ?hA ?l1 ?hB ?l2).mono ?_; (case l1 => exact Nat.le_refl 1); (case l2 => exact Nat.le_refl 1);
       (case hA => exact lit_C k28 (blk_alloc (blk_new' (World.size_alloc _ _) _) _) (blk_reps _ HL2.out (Kd.C_below HC3.out ((((Below.refl w3.heap.size w3).alloc (Nat.le_refl _) _).alloc (by simp only [World.size_alloc]; omega) _).alloc (by simp only [World.size_alloc]; omega) _))) (by decide));
       (case hB => exact lit_C k28 (blk_new' (by simp only [World.size_alloc]) _) (blk_reps _ (Nat.le_refl 3) (lit_C k30 (blk_alloc (blk_alloc (blk_alloc q1.out _) _) _) (out_reps _) (by decide))) (by decide));
       rintro e w5 ⟨rfl, hb5⟩;
       have q3 : w5.heap[w3.heap.size]? = some (.cells #[.int .i64 1, .int .i64 3, .int .i64 0, .int .i64 0, .int .i64 0, .slice A3 0 n3] 30) := (hb5.block _ (by simp only [World.size_alloc]; omega)).trans (blk_alloc (blk_alloc (blk_new w3 _) _) _);
       have HB5 := Aside0.mk (show Below w.heap.size w w5 from (((HB3.out.alloc HB3.out.size _).alloc (by simp only [World.size_alloc]; have := HB3.out.size; omega) _).alloc (by simp only [World.size_alloc]; have := HB3.out.size; omega) _).trans (hb5.mono (by simp only [World.size_alloc]; have := HB3.out.size; omega)));
       have t0 : w5.cell? ⟨w3.heap.size, 0, none⟩ = some (.int .i64 1) := (blk_cell q3 0).trans rfl; have t1 : w5.cell? ⟨w3.heap.size, 1, none⟩ = some (.int .i64 3) := (blk_cell q3 1).trans rfl; have t2 : w5.cell? ⟨w3.heap.size, 2, none⟩ = some (.int .i64 0) := (blk_cell q3 2).trans rfl; have t3 : w5.cell? ⟨w3.heap.size, 3, none⟩ = some (.int .i64 0) := (blk_cell q3 3).trans rfl; have t4 : w5.cell? ⟨w3.heap.size, 4, none⟩ = some (.int .i64 0) := (blk_cell q3 4).trans rfl; have t5 : w5.cell? ⟨w3.heap.size, 5, none⟩ = some (.slice A3 0 n3) := (blk_cell q3 5).trans rfl;
       clear hb5 q3 HB3 HC3)
    | (go_at_call 21; refine (h21 _ _ _ _ _).mono ?_; rintro e w6 ⟨rfl, hb6⟩; have HB6 := Aside0.mk (show Below w.heap.size w w6 from HB5.out.trans (hb6.mono HB5.out.size)); clear hb6)
    | (go_at_call 53; (with_reducible refine (h53a _).mono ?_); rintro e w7 ⟨rfl, n7, rfl⟩)
    | (go_at_call 53; (with_reducible refine (h53b _).mono ?_); rintro e w8 ⟨rfl, n8, rfl⟩))
  refine bodyPost_ret (v := .bool true) (by simp [results, Try.results26, go_sem]) rfl ⟨rfl, by first | exact HB6.out | exact below_un HB6.out | exact below_un (below_un HB6.out)⟩
end Go.Proofs.Ytmacdhkfgoahcaa.Fo
