/- Texts of this work, joined: SyDel, SyKT, SyOp, SyF13, SyF45, SyF70, SyF48, SyF61, SyF72, SyF27, SyF73, SyF75, SyF50, SyF23, FcA, FcB, SyF37, SyF77, SyF58, SyF59, SyF99, SyF94, SyF95, SyF83, SyF60. -/
import Derived.Test.YtmacdhkfgoahcaaSyMM
import Derived.Test.YtmacdhkfgoahcaaShelf
import Derived.Maps.RangeWalk
import Derived.Test.YtmacdhkfgoahcaaProg
set_option linter.unusedVariables false
set_option linter.unusedSimpArgs false
namespace Go.Proofs.Ytmacdhkfgoahcaa.Sy
open Go Go.RowKit Go.Proofs.YtmacdhkfgoahcaaW.PrintWords
theorem uniq_key {H : Type} {es : List (Lit × DataW H)} (h : es.Pairwise (fun p q => p.1 ≠ q.1)) : ∀ {x y}, x ∈ es → y ∈ es → x.1 = y.1 → x = y := by
  induction es with
  | nil => intro x y hx; cases hx
  | cons z r ih =>
    rw [List.pairwise_cons] at h
    intro x y hx hy he
    rcases List.mem_cons.1 hx with h1 | h1 <;> rcases List.mem_cons.1 hy with h2 | h2
    · rw [h1, h2]
    · exact absurd (h1 ▸ he) (h.1 y h2)
    · exact absurd (h2 ▸ he.symm) (h.1 x h1)
    · exact ih h.2 h1 h2 he
theorem same_eq {a b : Lit} (h : a.sameKey b = true) : a = b := Classical.byContradiction fun hn => by rw [Maps.sameKey_ne hn] at h; cases h
/-- What a predicate on numbers says on data. -/
def pdOf (p : Int → Int → Bool) (k : Lit) (d : DataW Unit) : Bool := match k, d with | .int _ a, .lit (.int _ v) => p a v | _, _ => false
theorem at_find {es : List (Lit × DataW Unit)} {k : Lit} {z : DataW Unit} : (DataW.map es).atKey k z = match es.find? (fun p => p.1.sameKey k) with | some p => p.2 | none => z := by
  unfold DataW.atKey
  cases h : es.find? (fun p => p.1.sameKey k) <;> simp [h]
theorem agr_delf {D : DataW Unit} {m : MpS} (hc : Maps.Canon D) (h : Agr D m.2) (p : Int → Int → Bool) : Agr (Lib.deleteFuncD (pdOf p) D) (mdelf m p).2 ∧ Maps.IsMap (Lib.deleteFuncD (pdOf p) D) := by
  obtain ⟨es, rfl, hp, hk⟩ := hc
  have hap := Maps.apart_of_rising hp
  refine ⟨⟨fun a ha hf => ?_, fun a v ha hf => ?_⟩, _, rfl⟩
  · show (es.filter fun q => !pdOf p q.1 q.2).any (fun q => q.1.sameKey (i64k a)) = false
    rw [List.any_eq_false]
    intro q hq hs
    rw [List.mem_filter] at hq
    have hqe := same_eq hs
    cases hm : m.2 a with
    | none =>
      have := h.1 a ha hm
      rw [Maps.has_eq, List.any_eq_false] at this
      exact this q hq.1 hs
    | some v =>
      obtain ⟨g1, g2, g3⟩ := h.2 a v ha hm
      have g4 := g3 .nil
      rw [at_find] at g4
      cases hfd : es.find? (fun p => p.1.sameKey (i64k a)) with
      | none => rw [List.find?_eq_none] at hfd; exact hfd q hq.1 hs
      | some q' =>
        rw [hfd] at g4
        have hq' := List.mem_of_find?_eq_some hfd
        have hs' := List.find?_some hfd
        obtain rfl := uniq_key hap hq.1 hq' (hqe.trans (same_eq hs').symm)
        have g5 : q.2 = i64d v := g4
        have : p a v = false := by have := hq.2; rw [hqe, g5] at this; simpa [pdOf, i64k, i64d] using this
        simp [mdelf, hm, this] at hf
  · have hm : m.2 a = some v ∧ p a v = false := by
      simp only [mdelf] at hf
      cases hm : m.2 a with
      | none => rw [hm] at hf; cases hf
      | some w =>
        rw [hm] at hf
        by_cases hpw : p a w
        · simp [hpw] at hf
        · simp [hpw] at hf
          subst hf; exact ⟨rfl, by simpa using hpw⟩
    obtain ⟨g1, g2, g3⟩ := h.2 a v ha hm.1
    have g4 := g3 .nil
    rw [at_find] at g4
    cases hfd : es.find? (fun p => p.1.sameKey (i64k a)) with
    | none => rw [hfd] at g4; cases g4
    | some q =>
      rw [hfd] at g4
      have g5 : q.2 = i64d v := g4
      have hq := List.mem_of_find?_eq_some hfd
      have hs := List.find?_some hfd
      have hs : q.1.sameKey (i64k a) = true := hs
      have hqe := same_eq hs
      have hkeep : (!pdOf p q.1 q.2) = true := by rw [hqe, g5]; simp [pdOf, i64k, i64d, hm.2]
      have hfd2 : (es.filter fun q => !pdOf p q.1 q.2).find? (fun q => q.1.sameKey (i64k a)) = some q := by
        cases h2 : (es.filter fun q => !pdOf p q.1 q.2).find? (fun q => q.1.sameKey (i64k a)) with
        | none =>
          rw [List.find?_eq_none] at h2
          exact absurd hs (h2 q (List.mem_filter.2 ⟨hq, hkeep⟩))
        | some q' =>
          have m1 := List.mem_of_find?_eq_some h2
          have m2 := List.find?_some h2
          rw [uniq_key hap (List.mem_filter.1 m1).1 hq ((same_eq m2).trans hqe.symm)]
      refine ⟨?_, g2, fun z => ?_⟩
      · show (es.filter fun q => !pdOf p q.1 q.2).any (fun q => q.1.sameKey (i64k a)) = true
        rw [List.any_eq_true]
        exact ⟨q, List.mem_filter.2 ⟨hq, hkeep⟩, hs⟩
      · show (DataW.map (es.filter fun q => !pdOf p q.1 q.2)).atKey (i64k a) z = _
        rw [at_find, hfd2]; exact g5
theorem agg3' : aggB Try.prog 3 = some false := by kernel_rfl
theorem fold_clos {W : World} {bd : Nat} {dv : Int} (h : W.heap[bd]? = some (.cells #[.int .i64 dv] 3 (0, 0))) (key : Value) (v : Int) : Fn Try.prog 81 (Gd.all W) [] [key, .int .i64 v, .pointer (some ⟨bd, 0, none⟩)] (fun x G' Lr => x = .bool (decide (v = dv)) ∧ G' = Gd.all W ∧ Lr = []) := by
  have hcl : Cl (Gd.all W) ⟨bd, 0, none⟩ (.int .i64 dv) := fun W' hW' => by
    have hb : W'.heap[bd]? = some (.cells #[.int .i64 dv] 3 (0, 0)) := (hW' bd (Array.getElem?_eq_some_iff.1 h).1).trans h
    simp [World.cell?, hb]
  refine Fn.intro (e := [(0, key), (1, .int .i64 v), (2, .pointer (some ⟨bd, 0, none⟩))]) 9 Try.func81 rfl Try.ntmps81 rfl rfl (Nat.le_of_ble_eq_true rfl) (fun L => ?_)
  refine TC.seq ?_
  refine TC.region ?_
  refine TL.cons (TO.val rfl rfl rfl (Val.assign rfl) ?_)
  refine TL.nil ?_
  refine TQ.then_ ?_
  refine TC.seq ?_
  refine TC.region ?_
  refine TL.cons (TO.val rfl rfl rfl (Val.move rfl) ?_)
  refine TL.cons (TO.val rfl rfl rfl (Val.loadS agg3' rfl hcl) ?_)
  refine TL.cons (TO.val rfl rfl rfl (Val.cmp rfl rfl run_eql) ?_)
  refine TL.cons (TO.val rfl rfl rfl (Val.assign rfl) ?_)
  refine TL.nil ?_
  refine TQ.then_ ?_
  refine TC.ret ?_
  exact TQ.fin (.inl rfl) rfl Try.results81 (.tmp rfl .nil) rfl (FRel.mk (Ls := []) [] 0 (Gd.le.refl _) rfl rfl rfl ⟨rfl, rfl, rfl⟩)
/-- maps.DeleteFunc with fold's closure: what is at a number is struck. -/
theorem fold_del {G : Gd} {bm bd : Nat} {m : MpS} {dv : Int} : Fn Try.prog 80 G [Mp Try.prog 3 3 bm m, Blk bd [.int .i64 dv] 3] [.map (some bm), .func (.func 81) #[] #[.pointer (some ⟨bd, 0, none⟩)]]
    (fun v G' Lr => G = G' ∧ v = .tuple #[] ∧ Lr = [Mp Try.prog 3 3 bm (mdelf m (fun _ v => decide (v = dv))), Blk bd [.int .i64 dv] 3]) := fun L W hO => by
  have K : Maps.Keyed Try.prog 3 := Maps.int_keyed Try.underlying3
  obtain ⟨D, h1, h2, h3⟩ := hO.mp (i := 0) rfl
  have hbd := hO.blk (i := 1) (b := bd) (cs := [.int .i64 dv]) (T := 3) rfl
  have hne : bd ≠ bm := fun e => by
    obtain ⟨es, clock, hb, _⟩ := h1
    rw [e, hb] at hbd; cases hbd
  have hd := AnyDf.maps_DeleteFunc Try.delII K (plainElem Try.prog 3) (pdOf (fun _ v => decide (v = dv))) 81 #[.pointer (some ⟨bd, 0, none⟩)] bm m.1 D W (fun args w => run_callFunc (by kernel_rfl) args w) h1 (fun W' key val kl yd yp hg hkey hv => by
    obtain ⟨x, rfl, rfl, _⟩ := Maps.keyOf_int_inv Try.underlying3 hkey
    obtain ⟨a, rfl, hz, _⟩ := plainElem_int_inv Try.underlying3 hv
    obtain ⟨rfl, rfl⟩ := Prod.mk.inj hz
    have hb' : W'.heap[bd]? = some (.cells #[.int .i64 dv] 3 (0, 0)) := (hg.block bd (Array.getElem?_eq_some_iff.1 hbd).1 (by intro e; exact hne (Option.some.inj e))).trans hbd
    refine (fold_clos hb' (.int .i64 x) a [] W' (Own.all W')).mono ?_
    rintro e w' ⟨u, G', Lr, rfl, hle, ⟨rfl, rfl, rfl⟩, hO2⟩
    exact ⟨rfl, hO2.os, hO2.tape, hO2.out, hO2.B, fun k hk _ => hO2.ok k hk⟩)
  refine hd.mono ?_
  rintro en W' ⟨rfl, h4, hg⟩
  obtain ⟨h5, h6⟩ := agr_delf (h1.canon K) h3 (fun _ v => decide (v = dv))
  refine ⟨_, G, _, rfl, Gd.le.refl _, ⟨rfl, rfl, rfl⟩, ?_⟩
  exact hO.step 0 rfl rfl hg.os hg.tape hg.output hg.size (fun F hF hh => ⟨⟨.inl hh.1, hh.2.1, _, h4, h6, h5⟩, fun k hk hn => hg.block k hk (fun e => hn (by rw [Option.some.inj e]; exact hh.1))⟩)
end Go.Proofs.Ytmacdhkfgoahcaa.Sy
set_option linter.unusedVariables false
set_option linter.unusedSimpArgs false
set_option maxRecDepth 100000
set_option maxHeartbeats 4000000
namespace Go.Proofs.Ytmacdhkfgoahcaa.Sy
open Go Go.RowKit Go.Proofs.YtmacdhkfgoahcaaW.PrintWords 
/-! #### struct type 25 -/
structure S25 where
 f0 : Int
 f1 : Int
 f2 : Int
 f3 : Int
def z25 : S25 := ⟨(0 : Int), (0 : Int), (0 : Int), (0 : Int)⟩
def k25 : Kd S25 := Kd.iso (Kd.pair (Kd.int .i64) (Kd.pair (Kd.int .i64) (Kd.pair (Kd.int .i64) (Kd.int .i64)))) (fun x : S25 => (x.f0, x.f1, x.f2, x.f3))
theorem k25_open {w : World} {x : S25} {cs : List Value} (h : k25.K w x cs) : cs = [.int .i64 x.f0, .int .i64 x.f1, .int .i64 x.f2, .int .i64 x.f3] := by
 obtain ⟨_, _, rfl, rfl, ⟨_, _, rfl, rfl, ⟨_, _, rfl, rfl, rfl⟩⟩⟩ := h
 exact rfl
theorem k25_openM {w : World} {base : Nat} {ok : Nat → Prop} {x : S25} {cs : List Value} (h : k25.M w base ok x cs) : cs = [.int .i64 x.f0, .int .i64 x.f1, .int .i64 x.f2, .int .i64 x.f3] := by
 obtain ⟨_, _, rfl, rfl, ⟨_, _, rfl, rfl, ⟨_, _, rfl, rfl, rfl⟩⟩⟩ := h
 exact rfl
theorem k25_mk (w : World) (x : S25)  : k25.K w x [.int .i64 x.f0, .int .i64 x.f1, .int .i64 x.f2, .int .i64 x.f3] := ⟨[.int .i64 x.f0], [.int .i64 x.f1, .int .i64 x.f2, .int .i64 x.f3], rfl, rfl, ⟨[.int .i64 x.f1], [.int .i64 x.f2, .int .i64 x.f3], rfl, rfl, ⟨[.int .i64 x.f2], [.int .i64 x.f3], rfl, rfl, rfl⟩⟩⟩
theorem k25_mkM (w : World) (base : Nat) (ok : Nat → Prop) (x : S25)  : k25.M w base ok x [.int .i64 x.f0, .int .i64 x.f1, .int .i64 x.f2, .int .i64 x.f3] := ⟨[.int .i64 x.f0], [.int .i64 x.f1, .int .i64 x.f2, .int .i64 x.f3], rfl, rfl, ⟨[.int .i64 x.f1], [.int .i64 x.f2, .int .i64 x.f3], rfl, rfl, ⟨[.int .i64 x.f2], [.int .i64 x.f3], rfl, rfl, rfl⟩⟩⟩
def rd_T25 (xs : List S25) (i : Int) : S25 := xs.getD i.toNat z25
theorem at_T25 {w : World} {A : Option Addr} {n : Nat} {xs : List S25} (h : Kd.C k25 w A n xs) (i : Int) (h0 : 0 ≤ i) (h1 : i < n) : ∃ ad , A = some ad ∧ w.cell? (ad.add (i.toNat * 4)) = some (.int .i64 (rd_T25 xs i).f0) ∧ w.cell? ⟨(ad.add (i.toNat * 4)).block, (ad.add (i.toNat * 4)).off + 1, none⟩ = some (.int .i64 (rd_T25 xs i).f1) ∧ w.cell? ⟨(ad.add (i.toNat * 4)).block, (ad.add (i.toNat * 4)).off + 2, none⟩ = some (.int .i64 (rd_T25 xs i).f2) ∧ w.cell? ⟨(ad.add (i.toNat * 4)).block, (ad.add (i.toNat * 4)).off + 3, none⟩ = some (.int .i64 (rd_T25 xs i).f3) := by
 obtain ⟨ad, c, e, _, hK, hc0⟩ := Kd.C_get h z25 i h0 h1
 have hc : ∀ j u, c[j]? = some u → w.cell? (ad.add (i.toNat * 4 + j)) = some u := hc0
 obtain rfl := k25_open hK
 exact ⟨ad, e, hc 0 _ rfl, by rw [← add_field _ _ 1 (by omega)]; exact hc 1 _ rfl, by rw [← add_field _ _ 2 (by omega)]; exact hc 2 _ rfl, by rw [← add_field _ _ 3 (by omega)]; exact hc 3 _ rfl⟩


/-! #### struct type 30 -/
structure S30 where
 f0 : Int
 f1 : Int
 f2 : Int
 f3 : Int
 f4 : Int
 f5 : (List Int)
def z30 : S30 := ⟨(0 : Int), (0 : Int), (0 : Int), (0 : Int), (0 : Int), ([] : List Int)⟩
def k30 : Kd S30 := Kd.iso (Kd.pair (Kd.int .i64) (Kd.pair (Kd.int .i64) (Kd.pair (Kd.int .i64) (Kd.pair (Kd.int .i64) (Kd.pair (Kd.int .i64) (Kd.slice 3 (Kd.int .i64))))))) (fun x : S30 => (x.f0, x.f1, x.f2, x.f3, x.f4, x.f5))
theorem k30_open {w : World} {x : S30} {cs : List Value} (h : k30.K w x cs) : ∃ A5 c5, cs = [.int .i64 x.f0, .int .i64 x.f1, .int .i64 x.f2, .int .i64 x.f3, .int .i64 x.f4, .slice A5 x.f5.length c5] ∧ x.f5.length ≤ c5 ∧ (Kd.int .i64).C w A5 x.f5.length x.f5 := by
 obtain ⟨_, _, rfl, rfl, ⟨_, _, rfl, rfl, ⟨_, _, rfl, rfl, ⟨_, _, rfl, rfl, ⟨_, _, rfl, rfl, ⟨A5, c5, rfl, l5, g5⟩⟩⟩⟩⟩⟩ := h
 exact ⟨A5, c5, rfl, l5, g5⟩
theorem k30_openM {w : World} {base : Nat} {ok : Nat → Prop} {x : S30} {cs : List Value} (h : k30.M w base ok x cs) : ∃ v5, cs = [.int .i64 x.f0, .int .i64 x.f1, .int .i64 x.f2, .int .i64 x.f3, .int .i64 x.f4, v5] ∧ (Kd.int .i64).R 3 w base ok v5 x.f5 := by
 obtain ⟨_, _, rfl, rfl, ⟨_, _, rfl, rfl, ⟨_, _, rfl, rfl, ⟨_, _, rfl, rfl, ⟨_, _, rfl, rfl, ⟨v5, rfl, g5⟩⟩⟩⟩⟩⟩ := h
 exact ⟨v5, rfl, g5⟩
theorem k30_mk (w : World) (x : S30) {A5 : Option Addr} {c5 : Nat} (l5 : x.f5.length ≤ c5) (g5 : (Kd.int .i64).C w A5 x.f5.length x.f5) : k30.K w x [.int .i64 x.f0, .int .i64 x.f1, .int .i64 x.f2, .int .i64 x.f3, .int .i64 x.f4, .slice A5 x.f5.length c5] := ⟨[.int .i64 x.f0], [.int .i64 x.f1, .int .i64 x.f2, .int .i64 x.f3, .int .i64 x.f4, .slice A5 x.f5.length c5], rfl, rfl, ⟨[.int .i64 x.f1], [.int .i64 x.f2, .int .i64 x.f3, .int .i64 x.f4, .slice A5 x.f5.length c5], rfl, rfl, ⟨[.int .i64 x.f2], [.int .i64 x.f3, .int .i64 x.f4, .slice A5 x.f5.length c5], rfl, rfl, ⟨[.int .i64 x.f3], [.int .i64 x.f4, .slice A5 x.f5.length c5], rfl, rfl, ⟨[.int .i64 x.f4], [.slice A5 x.f5.length c5], rfl, rfl, ⟨A5, c5, rfl, l5, g5⟩⟩⟩⟩⟩⟩
theorem k30_mkM (w : World) (base : Nat) (ok : Nat → Prop) (x : S30) {v5 : Value} (g5 : (Kd.int .i64).R 3 w base ok v5 x.f5) : k30.M w base ok x [.int .i64 x.f0, .int .i64 x.f1, .int .i64 x.f2, .int .i64 x.f3, .int .i64 x.f4, v5] := ⟨[.int .i64 x.f0], [.int .i64 x.f1, .int .i64 x.f2, .int .i64 x.f3, .int .i64 x.f4, v5], rfl, rfl, ⟨[.int .i64 x.f1], [.int .i64 x.f2, .int .i64 x.f3, .int .i64 x.f4, v5], rfl, rfl, ⟨[.int .i64 x.f2], [.int .i64 x.f3, .int .i64 x.f4, v5], rfl, rfl, ⟨[.int .i64 x.f3], [.int .i64 x.f4, v5], rfl, rfl, ⟨[.int .i64 x.f4], [v5], rfl, rfl, ⟨v5, rfl, g5⟩⟩⟩⟩⟩⟩
def rd_T30 (xs : List S30) (i : Int) : S30 := xs.getD i.toNat z30
theorem at_T30 {w : World} {A : Option Addr} {n : Nat} {xs : List S30} (h : Kd.C k30 w A n xs) (i : Int) (h0 : 0 ≤ i) (h1 : i < n) : ∃ ad A5 c5, A = some ad ∧ w.cell? (ad.add (i.toNat * 6)) = some (.int .i64 (rd_T30 xs i).f0) ∧ w.cell? ⟨(ad.add (i.toNat * 6)).block, (ad.add (i.toNat * 6)).off + 1, none⟩ = some (.int .i64 (rd_T30 xs i).f1) ∧ w.cell? ⟨(ad.add (i.toNat * 6)).block, (ad.add (i.toNat * 6)).off + 2, none⟩ = some (.int .i64 (rd_T30 xs i).f2) ∧ w.cell? ⟨(ad.add (i.toNat * 6)).block, (ad.add (i.toNat * 6)).off + 3, none⟩ = some (.int .i64 (rd_T30 xs i).f3) ∧ w.cell? ⟨(ad.add (i.toNat * 6)).block, (ad.add (i.toNat * 6)).off + 4, none⟩ = some (.int .i64 (rd_T30 xs i).f4) ∧ w.cell? ⟨(ad.add (i.toNat * 6)).block, (ad.add (i.toNat * 6)).off + 5, none⟩ = some (.slice A5 (rd_T30 xs i).f5.length c5) ∧ (rd_T30 xs i).f5.length ≤ c5 ∧ (Kd.int .i64).C w A5 (rd_T30 xs i).f5.length (rd_T30 xs i).f5 := by
 obtain ⟨ad, c, e, _, hK, hc0⟩ := Kd.C_get h z30 i h0 h1
 have hc : ∀ j u, c[j]? = some u → w.cell? (ad.add (i.toNat * 6 + j)) = some u := hc0
 obtain ⟨A5, c5, rfl, l5, g5⟩ := k30_open hK
 exact ⟨ad, A5, c5, e, hc 0 _ rfl, by rw [← add_field _ _ 1 (by omega)]; exact hc 1 _ rfl, by rw [← add_field _ _ 2 (by omega)]; exact hc 2 _ rfl, by rw [← add_field _ _ 3 (by omega)]; exact hc 3 _ rfl, by rw [← add_field _ _ 4 (by omega)]; exact hc 4 _ rfl, by rw [← add_field _ _ 5 (by omega)]; exact hc 5 _ rfl, l5, g5⟩


/-! #### struct type 28 -/
structure S28 where
 f0 : (List S30)
 f1 : S25
def z28 : S28 := ⟨([] : List S30), z25⟩
def k28 : Kd S28 := Kd.iso (Kd.pair (Kd.slice 30 k30) k25) (fun x : S28 => (x.f0, x.f1))
theorem k28_open {w : World} {x : S28} {cs : List Value} (h : k28.K w x cs) : ∃ A0 c0, cs = [.slice A0 x.f0.length c0, .int .i64 x.f1.f0, .int .i64 x.f1.f1, .int .i64 x.f1.f2, .int .i64 x.f1.f3] ∧ x.f0.length ≤ c0 ∧ k30.C w A0 x.f0.length x.f0 := by
 obtain ⟨_, _, rfl, ⟨A0, c0, rfl, l0, g0⟩, s1⟩ := h
 obtain rfl := k25_open s1
 exact ⟨A0, c0, rfl, l0, g0⟩
theorem k28_openM {w : World} {base : Nat} {ok : Nat → Prop} {x : S28} {cs : List Value} (h : k28.M w base ok x cs) : ∃ v0, cs = [v0, .int .i64 x.f1.f0, .int .i64 x.f1.f1, .int .i64 x.f1.f2, .int .i64 x.f1.f3] ∧ k30.R 30 w base ok v0 x.f0 := by
 obtain ⟨_, _, rfl, ⟨v0, rfl, g0⟩, s1⟩ := h
 obtain rfl := k25_openM s1
 exact ⟨v0, rfl, g0⟩
theorem k28_mk (w : World) (x : S28) {A0 : Option Addr} {c0 : Nat} (l0 : x.f0.length ≤ c0) (g0 : k30.C w A0 x.f0.length x.f0) : k28.K w x [.slice A0 x.f0.length c0, .int .i64 x.f1.f0, .int .i64 x.f1.f1, .int .i64 x.f1.f2, .int .i64 x.f1.f3] := ⟨[.slice A0 x.f0.length c0], [.int .i64 x.f1.f0, .int .i64 x.f1.f1, .int .i64 x.f1.f2, .int .i64 x.f1.f3], rfl, ⟨A0, c0, rfl, l0, g0⟩, (k25_mk w x.f1 )⟩
theorem k28_mkM (w : World) (base : Nat) (ok : Nat → Prop) (x : S28) {v0 : Value} (g0 : k30.R 30 w base ok v0 x.f0) : k28.M w base ok x [v0, .int .i64 x.f1.f0, .int .i64 x.f1.f1, .int .i64 x.f1.f2, .int .i64 x.f1.f3] := ⟨[v0], [.int .i64 x.f1.f0, .int .i64 x.f1.f1, .int .i64 x.f1.f2, .int .i64 x.f1.f3], rfl, ⟨v0, rfl, g0⟩, (k25_mkM w base ok x.f1 )⟩
def rd_T28 (xs : List S28) (i : Int) : S28 := xs.getD i.toNat z28
theorem at_T28 {w : World} {A : Option Addr} {n : Nat} {xs : List S28} (h : Kd.C k28 w A n xs) (i : Int) (h0 : 0 ≤ i) (h1 : i < n) : ∃ ad A0 c0, A = some ad ∧ w.cell? (ad.add (i.toNat * 5)) = some (.slice A0 (rd_T28 xs i).f0.length c0) ∧ w.cell? ⟨(ad.add (i.toNat * 5)).block, (ad.add (i.toNat * 5)).off + 1, none⟩ = some (.int .i64 (rd_T28 xs i).f1.f0) ∧ w.cell? ⟨(ad.add (i.toNat * 5)).block, (ad.add (i.toNat * 5)).off + 2, none⟩ = some (.int .i64 (rd_T28 xs i).f1.f1) ∧ w.cell? ⟨(ad.add (i.toNat * 5)).block, (ad.add (i.toNat * 5)).off + 3, none⟩ = some (.int .i64 (rd_T28 xs i).f1.f2) ∧ w.cell? ⟨(ad.add (i.toNat * 5)).block, (ad.add (i.toNat * 5)).off + 4, none⟩ = some (.int .i64 (rd_T28 xs i).f1.f3) ∧ (rd_T28 xs i).f0.length ≤ c0 ∧ k30.C w A0 (rd_T28 xs i).f0.length (rd_T28 xs i).f0 := by
 obtain ⟨ad, c, e, _, hK, hc0⟩ := Kd.C_get h z28 i h0 h1
 have hc : ∀ j u, c[j]? = some u → w.cell? (ad.add (i.toNat * 5 + j)) = some u := hc0
 obtain ⟨A0, c0, rfl, l0, g0⟩ := k28_open hK
 exact ⟨ad, A0, c0, e, hc 0 _ rfl, by rw [← add_field _ _ 1 (by omega)]; exact hc 1 _ rfl, by rw [← add_field _ _ 2 (by omega)]; exact hc 2 _ rfl, by rw [← add_field _ _ 3 (by omega)]; exact hc 3 _ rfl, by rw [← add_field _ _ 4 (by omega)]; exact hc 4 _ rfl, l0, g0⟩


/-! #### struct type 36 -/
structure S36 where
 f0 : Int
 f1 : (List S28)
def z36 : S36 := ⟨(0 : Int), ([] : List S28)⟩
def k36 : Kd S36 := Kd.iso (Kd.pair (Kd.int .i64) (Kd.slice 28 k28)) (fun x : S36 => (x.f0, x.f1))
theorem k36_open {w : World} {x : S36} {cs : List Value} (h : k36.K w x cs) : ∃ A1 c1, cs = [.int .i64 x.f0, .slice A1 x.f1.length c1] ∧ x.f1.length ≤ c1 ∧ k28.C w A1 x.f1.length x.f1 := by
 obtain ⟨_, _, rfl, rfl, ⟨A1, c1, rfl, l1, g1⟩⟩ := h
 exact ⟨A1, c1, rfl, l1, g1⟩
theorem k36_openM {w : World} {base : Nat} {ok : Nat → Prop} {x : S36} {cs : List Value} (h : k36.M w base ok x cs) : ∃ v1, cs = [.int .i64 x.f0, v1] ∧ k28.R 28 w base ok v1 x.f1 := by
 obtain ⟨_, _, rfl, rfl, ⟨v1, rfl, g1⟩⟩ := h
 exact ⟨v1, rfl, g1⟩
theorem k36_mk (w : World) (x : S36) {A1 : Option Addr} {c1 : Nat} (l1 : x.f1.length ≤ c1) (g1 : k28.C w A1 x.f1.length x.f1) : k36.K w x [.int .i64 x.f0, .slice A1 x.f1.length c1] := ⟨[.int .i64 x.f0], [.slice A1 x.f1.length c1], rfl, rfl, ⟨A1, c1, rfl, l1, g1⟩⟩
theorem k36_mkM (w : World) (base : Nat) (ok : Nat → Prop) (x : S36) {v1 : Value} (g1 : k28.R 28 w base ok v1 x.f1) : k36.M w base ok x [.int .i64 x.f0, v1] := ⟨[.int .i64 x.f0], [v1], rfl, rfl, ⟨v1, rfl, g1⟩⟩
def rd_T36 (xs : List S36) (i : Int) : S36 := xs.getD i.toNat z36
theorem at_T36 {w : World} {A : Option Addr} {n : Nat} {xs : List S36} (h : Kd.C k36 w A n xs) (i : Int) (h0 : 0 ≤ i) (h1 : i < n) : ∃ ad A1 c1, A = some ad ∧ w.cell? (ad.add (i.toNat * 2)) = some (.int .i64 (rd_T36 xs i).f0) ∧ w.cell? ⟨(ad.add (i.toNat * 2)).block, (ad.add (i.toNat * 2)).off + 1, none⟩ = some (.slice A1 (rd_T36 xs i).f1.length c1) ∧ (rd_T36 xs i).f1.length ≤ c1 ∧ k28.C w A1 (rd_T36 xs i).f1.length (rd_T36 xs i).f1 := by
 obtain ⟨ad, c, e, _, hK, hc0⟩ := Kd.C_get h z36 i h0 h1
 have hc : ∀ j u, c[j]? = some u → w.cell? (ad.add (i.toNat * 2 + j)) = some u := hc0
 obtain ⟨A1, c1, rfl, l1, g1⟩ := k36_open hK
 exact ⟨ad, A1, c1, e, hc 0 _ rfl, by rw [← add_field _ _ 1 (by omega)]; exact hc 1 _ rfl, l1, g1⟩


/-! #### struct type 76 -/
structure S76 where
 f0 : Int
 f1 : Int
def z76 : S76 := ⟨(0 : Int), (0 : Int)⟩
def k76 : Kd S76 := Kd.iso (Kd.pair (Kd.int .i64) (Kd.int .i64)) (fun x : S76 => (x.f0, x.f1))
theorem k76_open {w : World} {x : S76} {cs : List Value} (h : k76.K w x cs) : cs = [.int .i64 x.f0, .int .i64 x.f1] := by
 obtain ⟨_, _, rfl, rfl, rfl⟩ := h
 exact rfl
theorem k76_openM {w : World} {base : Nat} {ok : Nat → Prop} {x : S76} {cs : List Value} (h : k76.M w base ok x cs) : cs = [.int .i64 x.f0, .int .i64 x.f1] := by
 obtain ⟨_, _, rfl, rfl, rfl⟩ := h
 exact rfl
theorem k76_mk (w : World) (x : S76)  : k76.K w x [.int .i64 x.f0, .int .i64 x.f1] := ⟨[.int .i64 x.f0], [.int .i64 x.f1], rfl, rfl, rfl⟩
theorem k76_mkM (w : World) (base : Nat) (ok : Nat → Prop) (x : S76)  : k76.M w base ok x [.int .i64 x.f0, .int .i64 x.f1] := ⟨[.int .i64 x.f0], [.int .i64 x.f1], rfl, rfl, rfl⟩
def rd_T76 (xs : List S76) (i : Int) : S76 := xs.getD i.toNat z76
theorem at_T76 {w : World} {A : Option Addr} {n : Nat} {xs : List S76} (h : Kd.C k76 w A n xs) (i : Int) (h0 : 0 ≤ i) (h1 : i < n) : ∃ ad , A = some ad ∧ w.cell? (ad.add (i.toNat * 2)) = some (.int .i64 (rd_T76 xs i).f0) ∧ w.cell? ⟨(ad.add (i.toNat * 2)).block, (ad.add (i.toNat * 2)).off + 1, none⟩ = some (.int .i64 (rd_T76 xs i).f1) := by
 obtain ⟨ad, c, e, _, hK, hc0⟩ := Kd.C_get h z76 i h0 h1
 have hc : ∀ j u, c[j]? = some u → w.cell? (ad.add (i.toNat * 2 + j)) = some u := hc0
 obtain rfl := k76_open hK
 exact ⟨ad, e, hc 0 _ rfl, by rw [← add_field _ _ 1 (by omega)]; exact hc 1 _ rfl⟩


/-! #### struct type 89 -/
structure S89 where
 f0 : Bool
 f1 : Bool
 f2 : Bool
 f3 : Bool
def z89 : S89 := ⟨false, false, false, false⟩
def k89 : Kd S89 := Kd.iso (Kd.pair Kd.bool (Kd.pair Kd.bool (Kd.pair Kd.bool Kd.bool))) (fun x : S89 => (x.f0, x.f1, x.f2, x.f3))
theorem k89_open {w : World} {x : S89} {cs : List Value} (h : k89.K w x cs) : cs = [.bool x.f0, .bool x.f1, .bool x.f2, .bool x.f3] := by
 obtain ⟨_, _, rfl, rfl, ⟨_, _, rfl, rfl, ⟨_, _, rfl, rfl, rfl⟩⟩⟩ := h
 exact rfl
theorem k89_openM {w : World} {base : Nat} {ok : Nat → Prop} {x : S89} {cs : List Value} (h : k89.M w base ok x cs) : cs = [.bool x.f0, .bool x.f1, .bool x.f2, .bool x.f3] := by
 obtain ⟨_, _, rfl, rfl, ⟨_, _, rfl, rfl, ⟨_, _, rfl, rfl, rfl⟩⟩⟩ := h
 exact rfl
theorem k89_mk (w : World) (x : S89)  : k89.K w x [.bool x.f0, .bool x.f1, .bool x.f2, .bool x.f3] := ⟨[.bool x.f0], [.bool x.f1, .bool x.f2, .bool x.f3], rfl, rfl, ⟨[.bool x.f1], [.bool x.f2, .bool x.f3], rfl, rfl, ⟨[.bool x.f2], [.bool x.f3], rfl, rfl, rfl⟩⟩⟩
theorem k89_mkM (w : World) (base : Nat) (ok : Nat → Prop) (x : S89)  : k89.M w base ok x [.bool x.f0, .bool x.f1, .bool x.f2, .bool x.f3] := ⟨[.bool x.f0], [.bool x.f1, .bool x.f2, .bool x.f3], rfl, rfl, ⟨[.bool x.f1], [.bool x.f2, .bool x.f3], rfl, rfl, ⟨[.bool x.f2], [.bool x.f3], rfl, rfl, rfl⟩⟩⟩
def rd_T89 (xs : List S89) (i : Int) : S89 := xs.getD i.toNat z89
theorem at_T89 {w : World} {A : Option Addr} {n : Nat} {xs : List S89} (h : Kd.C k89 w A n xs) (i : Int) (h0 : 0 ≤ i) (h1 : i < n) : ∃ ad , A = some ad ∧ w.cell? (ad.add (i.toNat * 4)) = some (.bool (rd_T89 xs i).f0) ∧ w.cell? ⟨(ad.add (i.toNat * 4)).block, (ad.add (i.toNat * 4)).off + 1, none⟩ = some (.bool (rd_T89 xs i).f1) ∧ w.cell? ⟨(ad.add (i.toNat * 4)).block, (ad.add (i.toNat * 4)).off + 2, none⟩ = some (.bool (rd_T89 xs i).f2) ∧ w.cell? ⟨(ad.add (i.toNat * 4)).block, (ad.add (i.toNat * 4)).off + 3, none⟩ = some (.bool (rd_T89 xs i).f3) := by
 obtain ⟨ad, c, e, _, hK, hc0⟩ := Kd.C_get h z89 i h0 h1
 have hc : ∀ j u, c[j]? = some u → w.cell? (ad.add (i.toNat * 4 + j)) = some u := hc0
 obtain rfl := k89_open hK
 exact ⟨ad, e, hc 0 _ rfl, by rw [← add_field _ _ 1 (by omega)]; exact hc 1 _ rfl, by rw [← add_field _ _ 2 (by omega)]; exact hc 2 _ rfl, by rw [← add_field _ _ 3 (by omega)]; exact hc 3 _ rfl⟩

theorem k28_openR {G : Gd} {x : S28} {cs : List Value} (h : RdK G k28 x cs) : ∃ A0 c0, cs = [.slice A0 x.f0.length c0, .int .i64 x.f1.f0, .int .i64 x.f1.f1, .int .i64 x.f1.f2, .int .i64 x.f1.f3] ∧ Rd G k30 A0 x.f0 ∧ x.f0.length ≤ c0 := by
 obtain ⟨A0, c0, rfl, l0, g0⟩ := k28_open (h G.W0 G.self)
 exact ⟨A0, c0, rfl, (fun W hW => by obtain ⟨A0', c0', he, l0', g0'⟩ := k28_open (h W hW); injection (Option.some.inj (congrArg (fun l => l[0]?) he)) with ha_ _ _; rw [ha_]; exact g0'), l0⟩
theorem k30_openR {G : Gd} {x : S30} {cs : List Value} (h : RdK G k30 x cs) : ∃ A5 c5, cs = [.int .i64 x.f0, .int .i64 x.f1, .int .i64 x.f2, .int .i64 x.f3, .int .i64 x.f4, .slice A5 x.f5.length c5] ∧ Rd G (Kd.int .i64) A5 x.f5 ∧ x.f5.length ≤ c5 := by
 obtain ⟨A5, c5, rfl, l5, g5⟩ := k30_open (h G.W0 G.self)
 exact ⟨A5, c5, rfl, (fun W hW => by obtain ⟨A5', c5', he, l5', g5'⟩ := k30_open (h W hW); injection (Option.some.inj (congrArg (fun l => l[5]?) he)) with ha_ _ _; rw [ha_]; exact g5'), l5⟩
theorem k76_openR {G : Gd} {x : S76} {cs : List Value} (h : RdK G k76 x cs) : cs = [.int .i64 x.f0, .int .i64 x.f1] := k76_open (h G.W0 G.self)
theorem agg3 : aggB Try.prog 3 = some false := by kernel_rfl
theorem agg4 : aggB Try.prog 4 = some false := by kernel_rfl
theorem agg22 : aggB Try.prog 22 = some false := by kernel_rfl
theorem agg25 : aggB Try.prog 25 = some true := by kernel_rfl
theorem agg26 : aggB Try.prog 26 = some false := by kernel_rfl
theorem agg28 : aggB Try.prog 28 = some true := by kernel_rfl
theorem agg30 : aggB Try.prog 30 = some true := by kernel_rfl
theorem agg34 : aggB Try.prog 34 = some false := by kernel_rfl
theorem agg36 : aggB Try.prog 36 = some true := by kernel_rfl
theorem agg76 : aggB Try.prog 76 = some true := by kernel_rfl
theorem agg80 : aggB Try.prog 80 = some false := by kernel_rfl
theorem agg81 : aggB Try.prog 81 = some false := by kernel_rfl
theorem agg89 : aggB Try.prog 89 = some true := by kernel_rfl
theorem bld25 : (match Try.prog.underlying 25 with | some (.struct fs) => fs.toList.map (fun f => (Try.prog.info? f.type).map (·.size)) | _ => []) = [1, 1, 1, 1].map some := by kernel_rfl
theorem bld28 : (match Try.prog.underlying 28 with | some (.struct fs) => fs.toList.map (fun f => (Try.prog.info? f.type).map (·.size)) | _ => []) = [1, 4].map some := by kernel_rfl
theorem bld30 : (match Try.prog.underlying 30 with | some (.struct fs) => fs.toList.map (fun f => (Try.prog.info? f.type).map (·.size)) | _ => []) = [1, 1, 1, 1, 1, 1].map some := by kernel_rfl
theorem bld36 : (match Try.prog.underlying 36 with | some (.struct fs) => fs.toList.map (fun f => (Try.prog.info? f.type).map (·.size)) | _ => []) = [1, 1].map some := by kernel_rfl
theorem bld83 : (match Try.prog.underlying 83 with | some (.struct fs) => fs.toList.map (fun f => (Try.prog.info? f.type).map (·.size)) | _ => []) = [1, 1].map some := by kernel_rfl
theorem bld89 : (match Try.prog.underlying 89 with | some (.struct fs) => fs.toList.map (fun f => (Try.prog.info? f.type).map (·.size)) | _ => []) = [1, 1, 1, 1].map some := by kernel_rfl
theorem eqg25 : Try.prog.eqGuardType Try.prog.depth 25 = false := by kernel_rfl
theorem eqs25 (d : Nat) (w : World) (x0 y0 : Int) (x1 y1 : Int) (x2 y2 : Int) (x3 y3 : Int) : (Op.equalIn (d + 2) 25 (.agg #[.int .i64 x0, .int .i64 x1, .int .i64 x2, .int .i64 x3]) (.agg #[.int .i64 y0, .int .i64 y1, .int .i64 y2, .int .i64 y3])).run Try.prog w = .ok ((x0 == y0) && ((x1 == y1) && ((x2 == y2) && (x3 == y3)))) w := by
 refine fld_of Try.underlying25 (by kernel_rfl) ?_
 refine fld_cons (by rfl) (by go_simp; rfl) (by go_simp; rfl) (by go_simp) ?_
 refine fld_cons (by rfl) (by go_simp; rfl) (by go_simp; rfl) (by go_simp) ?_
 refine fld_cons (by rfl) (by go_simp; rfl) (by go_simp; rfl) (by go_simp) ?_
 exact fld_last (by rfl) (by go_simp; rfl) (by go_simp; rfl) (by go_simp)
theorem hbd13 : hasBody Try.prog 13 = true := by kernel_rfl
theorem hbd16 : hasBody Try.prog 16 = true := by kernel_rfl
theorem hbd19 : hasBody Try.prog 19 = true := by kernel_rfl
theorem hbd21 : hasBody Try.prog 21 = true := by kernel_rfl
theorem hbd23 : hasBody Try.prog 23 = true := by kernel_rfl
theorem hbd26 : hasBody Try.prog 26 = true := by kernel_rfl
theorem hbd27 : hasBody Try.prog 27 = true := by kernel_rfl
theorem hbd28 : hasBody Try.prog 28 = true := by kernel_rfl
theorem hbd29 : hasBody Try.prog 29 = true := by kernel_rfl
theorem hbd30 : hasBody Try.prog 30 = true := by kernel_rfl
theorem hbd31 : hasBody Try.prog 31 = true := by kernel_rfl
theorem hbd32 : hasBody Try.prog 32 = true := by kernel_rfl
theorem hbd37 : hasBody Try.prog 37 = true := by kernel_rfl
theorem hbd39 : hasBody Try.prog 39 = true := by kernel_rfl
theorem hbd45 : hasBody Try.prog 45 = true := by kernel_rfl
theorem hbd46 : hasBody Try.prog 46 = true := by kernel_rfl
theorem hbd47 : hasBody Try.prog 47 = true := by kernel_rfl
theorem hbd48 : hasBody Try.prog 48 = true := by kernel_rfl
theorem hbd49 : hasBody Try.prog 49 = true := by kernel_rfl
theorem hbd50 : hasBody Try.prog 50 = true := by kernel_rfl
theorem hbd51 : hasBody Try.prog 51 = true := by kernel_rfl
theorem hbd52 : hasBody Try.prog 52 = true := by kernel_rfl
theorem hbd53 : hasBody Try.prog 53 = true := by kernel_rfl
theorem hbd54 : hasBody Try.prog 54 = true := by kernel_rfl
theorem hbd55 : hasBody Try.prog 55 = true := by kernel_rfl
theorem hbd56 : hasBody Try.prog 56 = true := by kernel_rfl
theorem hbd57 : hasBody Try.prog 57 = true := by kernel_rfl
theorem hbd58 : hasBody Try.prog 58 = true := by kernel_rfl
theorem hbd59 : hasBody Try.prog 59 = true := by kernel_rfl
theorem hbd60 : hasBody Try.prog 60 = true := by kernel_rfl
theorem hbd61 : hasBody Try.prog 61 = true := by kernel_rfl
theorem hbd62 : hasBody Try.prog 62 = true := by kernel_rfl
theorem hbd68 : hasBody Try.prog 68 = true := by kernel_rfl
theorem hbd69 : hasBody Try.prog 69 = true := by kernel_rfl
theorem hbd70 : hasBody Try.prog 70 = true := by kernel_rfl
theorem hbd71 : hasBody Try.prog 71 = true := by kernel_rfl
theorem hbd72 : hasBody Try.prog 72 = true := by kernel_rfl
theorem hbd73 : hasBody Try.prog 73 = true := by kernel_rfl
theorem hbd74 : hasBody Try.prog 74 = true := by kernel_rfl
theorem hbd75 : hasBody Try.prog 75 = true := by kernel_rfl
theorem hbd76 : hasBody Try.prog 76 = true := by kernel_rfl
theorem hbd77 : hasBody Try.prog 77 = true := by kernel_rfl
theorem hbd78 : hasBody Try.prog 78 = true := by kernel_rfl
theorem hbd79 : hasBody Try.prog 79 = true := by kernel_rfl
theorem hbd80 : hasBody Try.prog 80 = true := by kernel_rfl
theorem hbd82 : hasBody Try.prog 82 = true := by kernel_rfl
theorem hbd83 : hasBody Try.prog 83 = true := by kernel_rfl
theorem hbd84 : hasBody Try.prog 84 = true := by kernel_rfl
theorem hbd87 : hasBody Try.prog 87 = true := by kernel_rfl
theorem hbd88 : hasBody Try.prog 88 = true := by kernel_rfl
theorem hbd89 : hasBody Try.prog 89 = true := by kernel_rfl
theorem hbd90 : hasBody Try.prog 90 = true := by kernel_rfl
theorem hbd91 : hasBody Try.prog 91 = true := by kernel_rfl
theorem hbd92 : hasBody Try.prog 92 = true := by kernel_rfl
theorem hbd93 : hasBody Try.prog 93 = true := by kernel_rfl
theorem hbd94 : hasBody Try.prog 94 = true := by kernel_rfl
theorem hbd95 : hasBody Try.prog 95 = true := by kernel_rfl
theorem hbd99 : hasBody Try.prog 99 = true := by kernel_rfl
theorem inf3 : (Try.prog.info? 3).map (fun i => (i.zero, i.size, i.bytes)) = some (some (.int .i64 0), 1, 8) := by kernel_rfl
theorem inf28 : (Try.prog.info? 28).map (fun i => (i.zero, i.size, i.bytes)) = some (some (.agg #[.slice none 0 0, .int .i64 0, .int .i64 0, .int .i64 0, .int .i64 0]), 5, 56) := by kernel_rfl
theorem inf30 : (Try.prog.info? 30).map (fun i => (i.zero, i.size, i.bytes)) = some (some (.agg #[.int .i64 0, .int .i64 0, .int .i64 0, .int .i64 0, .int .i64 0, .slice none 0 0]), 6, 64) := by kernel_rfl
theorem mixed : Try.prog.follows .mixedOrders = true := by kernel_rfl
theorem fsz3 : (Try.prog.info? 3).map (·.size) = some 1 := by kernel_rfl
theorem fsz4 : (Try.prog.info? 4).map (·.size) = some 1 := by kernel_rfl
theorem fsz22 : (Try.prog.info? 22).map (·.size) = some 1 := by kernel_rfl
theorem fsz25 : (Try.prog.info? 25).map (·.size) = some 4 := by kernel_rfl
theorem fsz26 : (Try.prog.info? 26).map (·.size) = some 1 := by kernel_rfl
theorem fsz28 : (Try.prog.info? 28).map (·.size) = some 5 := by kernel_rfl
theorem fsz30 : (Try.prog.info? 30).map (·.size) = some 6 := by kernel_rfl
theorem fsz34 : (Try.prog.info? 34).map (·.size) = some 1 := by kernel_rfl
theorem fsz36 : (Try.prog.info? 36).map (·.size) = some 2 := by kernel_rfl
theorem fsz76 : (Try.prog.info? 76).map (·.size) = some 2 := by kernel_rfl
theorem fsz80 : (Try.prog.info? 80).map (·.size) = some 1 := by kernel_rfl
theorem fsz81 : (Try.prog.info? 81).map (·.size) = some 1 := by kernel_rfl
theorem fsz89 : (Try.prog.info? 89).map (·.size) = some 4 := by kernel_rfl
theorem zr3 : (Try.prog.info? 3).bind (·.zero) = some (.int .i64 0) := by kernel_rfl
theorem zr4 : (Try.prog.info? 4).bind (·.zero) = some (.bool false) := by kernel_rfl
theorem zr25 : (Try.prog.info? 25).bind (·.zero) = some (.agg #[.int .i64 0, .int .i64 0, .int .i64 0, .int .i64 0]) := by kernel_rfl
theorem zr28 : (Try.prog.info? 28).bind (·.zero) = some (.agg #[.slice none 0 0, .int .i64 0, .int .i64 0, .int .i64 0, .int .i64 0]) := by kernel_rfl
theorem zr30 : (Try.prog.info? 30).bind (·.zero) = some (.agg #[.int .i64 0, .int .i64 0, .int .i64 0, .int .i64 0, .int .i64 0, .slice none 0 0]) := by kernel_rfl
theorem zr36 : (Try.prog.info? 36).bind (·.zero) = some (.agg #[.int .i64 0, .slice none 0 0]) := by kernel_rfl
theorem zr76 : (Try.prog.info? 76).bind (·.zero) = some (.agg #[.int .i64 0, .int .i64 0]) := by kernel_rfl
theorem zr83 : (Try.prog.info? 83).bind (·.zero) = some (.agg #[.map none, .map none]) := by kernel_rfl
theorem zr89 : (Try.prog.info? 89).bind (·.zero) = some (.agg #[.bool false, .bool false, .bool false, .bool false]) := by kernel_rfl
theorem zs3 : (Try.prog.info? 3).map (fun i => (i.zero, i.size)) = some (some (.int .i64 0), 1) := by kernel_rfl
theorem zs28 : (Try.prog.info? 28).map (fun i => (i.zero, i.size)) = some (some (.agg #[.slice none 0 0, .int .i64 0, .int .i64 0, .int .i64 0, .int .i64 0]), 5) := by kernel_rfl
theorem zs30 : (Try.prog.info? 30).map (fun i => (i.zero, i.size)) = some (some (.agg #[.int .i64 0, .int .i64 0, .int .i64 0, .int .i64 0, .int .i64 0, .slice none 0 0]), 6) := by kernel_rfl
theorem zs76 : (Try.prog.info? 76).map (fun i => (i.zero, i.size)) = some (some (.agg #[.int .i64 0, .int .i64 0]), 2) := by kernel_rfl
end Go.Proofs.Ytmacdhkfgoahcaa.Sy
set_option linter.unusedVariables false
set_option maxRecDepth 100000
namespace Go.Proofs.Ytmacdhkfgoahcaa.Sy
open Go Go.RowKit Go.Proofs.YtmacdhkfgoahcaaW.PrintWords Go.Proofs.Ytmacdhkfgoahcaa.SyO 
theorem bytes22 : Try.prog.bytesOf 3 = 8 := by kernel_rfl
theorem bytes26 : Try.prog.bytesOf 30 = 64 := by kernel_rfl
theorem bytes34 : Try.prog.bytesOf 28 = 56 := by kernel_rfl
abbrev ok30 (x : S30) : Prop := (Lit.int .i64 x.f0).wf = true ∧ (Lit.int .i64 x.f1).wf = true ∧ (Lit.int .i64 x.f2).wf = true ∧ (Lit.int .i64 x.f3).wf = true ∧ (Lit.int .i64 x.f4).wf = true ∧ (x.f5.length * 8 ≤ 140737488351232 ∧ ∀ y ∈ x.f5, (Lit.int .i64 y).wf = true)
theorem opens30 (b : Nat) : Opens b Try.prog 30 k30 ok30 := (Opens.struct Try.underlying30 (by kernel_rfl) (OpensF.cons (Opens.int Try.underlying3 (by kernel_rfl)) rfl (OpensF.cons (Opens.int Try.underlying3 (by kernel_rfl)) rfl (OpensF.cons (Opens.int Try.underlying3 (by kernel_rfl)) rfl (OpensF.cons (Opens.int Try.underlying3 (by kernel_rfl)) rfl (OpensF.cons (Opens.int Try.underlying3 (by kernel_rfl)) rfl (OpensF.one (((Opens.slice Try.underlying22 (by kernel_rfl) (Opens.int Try.underlying3 (by kernel_rfl))).le (Nat.le_succ _)).mono (W' := fun (l : (List Int)) => (l.length * 8 ≤ 140737488351232 ∧ ∀ y ∈ l, (Lit.int .i64 y).wf = true)) (fun l h => ⟨by have h2 := h.2.1; rw [bytes22] at h2; exact h2, h.2.2⟩)))))))) (fun x : S30 => (x.f0, x.f1, x.f2, x.f3, x.f4, x.f5)) (fun y => ⟨y.1, y.2.1, y.2.2.1, y.2.2.2.1, y.2.2.2.2.1, y.2.2.2.2.2⟩) (fun _ => rfl)).le (Nat.le_succ _)
theorem ho30 : HO k30 := HO.iso (HO.pair HO.int (HO.pair HO.int (HO.pair HO.int (HO.pair HO.int (HO.pair HO.int (HO.slice HO.int))))))
abbrev ok25 (x : S25) : Prop := (Lit.int .i64 x.f0).wf = true ∧ (Lit.int .i64 x.f1).wf = true ∧ (Lit.int .i64 x.f2).wf = true ∧ (Lit.int .i64 x.f3).wf = true
theorem opens25 (b : Nat) : Opens b Try.prog 25 k25 ok25 := (Opens.struct Try.underlying25 (by kernel_rfl) (OpensF.cons (Opens.int Try.underlying3 (by kernel_rfl)) rfl (OpensF.cons (Opens.int Try.underlying3 (by kernel_rfl)) rfl (OpensF.cons (Opens.int Try.underlying3 (by kernel_rfl)) rfl (OpensF.one (Opens.int Try.underlying3 (by kernel_rfl)))))) (fun x : S25 => (x.f0, x.f1, x.f2, x.f3)) (fun y => ⟨y.1, y.2.1, y.2.2.1, y.2.2.2⟩) (fun _ => rfl)).le (Nat.le_succ _)
theorem ho25 : HO k25 := HO.iso (HO.pair HO.int (HO.pair HO.int (HO.pair HO.int HO.int)))
abbrev ok28 (x : S28) : Prop := (x.f0.length * 64 ≤ 140737488351232 ∧ ∀ y ∈ x.f0, ok30 y) ∧ ok25 x.f1
theorem opens28 (b : Nat) : Opens b Try.prog 28 k28 ok28 := (Opens.struct Try.underlying28 (by kernel_rfl) (OpensF.cons (((Opens.slice Try.underlying26 (by kernel_rfl) (opens30 b)).le (Nat.le_succ _)).mono (W' := fun (l : (List S30)) => (l.length * 64 ≤ 140737488351232 ∧ ∀ y ∈ l, ok30 y)) (fun l h => ⟨by have h2 := h.2.1; rw [bytes26] at h2; exact h2, h.2.2⟩)) rfl (OpensF.one (opens25 b))) (fun x : S28 => (x.f0, x.f1)) (fun y => ⟨y.1, y.2⟩) (fun _ => rfl)).le (Nat.le_succ _)
theorem ho28 : HO k28 := HO.iso (HO.pair (HO.slice ho30) ho25)
abbrev ok36 (x : S36) : Prop := (Lit.int .i64 x.f0).wf = true ∧ (x.f1.length * 56 ≤ 140737488351232 ∧ ∀ y ∈ x.f1, ok28 y)
theorem opens36 (b : Nat) : Opens b Try.prog 36 k36 ok36 := (Opens.struct Try.underlying36 (by kernel_rfl) (OpensF.cons (Opens.int Try.underlying3 (by kernel_rfl)) rfl (OpensF.one (((Opens.slice Try.underlying34 (by kernel_rfl) (opens28 b)).le (Nat.le_succ _)).mono (W' := fun (l : (List S28)) => (l.length * 56 ≤ 140737488351232 ∧ ∀ y ∈ l, ok28 y)) (fun l h => ⟨by have h2 := h.2.1; rw [bytes34] at h2; exact h2, h.2.2⟩)))) (fun x : S36 => (x.f0, x.f1)) (fun y => ⟨y.1, y.2⟩) (fun _ => rfl)).le (Nat.le_succ _)
theorem ho36 : HO k36 := HO.iso (HO.pair HO.int (HO.slice ho28))
end Go.Proofs.Ytmacdhkfgoahcaa.Sy
set_option linter.unusedVariables false
set_option linter.unusedSimpArgs false
set_option maxRecDepth 100000
set_option maxHeartbeats 4000000
namespace Go.Proofs.Ytmacdhkfgoahcaa.Sy
open Go Go.RowKit Go.Proofs.YtmacdhkfgoahcaaW.PrintWords 
def swagelaw14_Few.l1 (a0 : S36) (x819 : Int) : Nat → Int → Option (Sum (Sum Bool (Int)) (Unit))
 | 0, _ => none
 | n2226 + 1, x2132 => jn (γ := (Sum (Sum Bool (Int)) (Unit))) (fun (x2335 : Bool) => (if x2335 = true then (at? a0.f1 x819).bind fun y2367 => (at? y2367.f0 x2132).bind fun y2380 => (if 20 < (y2380.f5.length : Int) then some (.inl (.inl false)) else swagelaw14_Few.l1 a0 x819 n2226 (IntKind.i64.wrap (x2132 + 1))) else some (.inr ()))) (fun (j2336 : (Bool → Option (Sum (Sum Bool (Int)) (Unit)))) => (at? a0.f1 x819).bind fun y2395 => (if x2132 < (y2395.f0.length : Int) then j2336 (decide (x2132 < 300)) else j2336 false))
def swagelaw14_Few.l0 (a0 : S36) : Nat → Int → Int → Option (Sum Bool (Int))
 | 0, _, _ => none
 | n1227 + 1, x818, x819 => jn (γ := (Sum Bool (Int))) (fun (x1642 : Bool) => (if x1642 = true then (at? a0.f1 x819).bind fun y1934 => (swagelaw14_Few.l1 a0 x819 ((at? a0.f1 x819).elim 0 (fun vy2227 => vy2227.f0.length) + 1) 0).bind fun | .inl q_ => some q_ | .inr _ => (swagelaw14_Few.l0 a0 n1227 (IntKind.i64.wrap (x818 + (y1934.f0.length : Int))) (IntKind.i64.wrap (x819 + 1))) else some (.inr x818))) (fun (j1643 : (Bool → Option (Sum Bool (Int)))) => (if x819 < (a0.f1.length : Int) then j1643 (decide (x819 < 100)) else j1643 false))
def swagelaw14_Few.f (a0 : S36) : Option Bool := (swagelaw14_Few.l0 a0 (a0.f1.length + 1) 0 0).bind fun | .inl q_ => some q_ | .inr x1225 => (if (a0.f1.length : Int) ≤ 40 then some (decide (x1225 ≤ 250)) else some false)
def swagelaw14_Few.post (G : Gd)  (r : Bool) (v : Value) (G' : Gd) (Lr : List Ch) : Prop := G = G' ∧ v = .bool r ∧ Lr = []
theorem swagelaw14_Few.calls {G : Gd} {r : Bool} {a0 : S36} {A1 : Option Addr} {c2 : Nat} (hr3 : Rd G k28 A1 a0.f1) (hl4 : a0.f1.length ≤ c2) (h : swagelaw14_Few.f a0 = some r) : Fn Try.prog 13 G [] [.agg #[.int .i64 a0.f0, .slice A1 a0.f1.length c2]] (swagelaw14_Few.post G  r) := by
 refine Fn.intro (e := [(0, .agg #[.int .i64 a0.f0, .slice A1 a0.f1.length c2])]) 61 Try.func13 rfl Try.ntmps13 rfl rfl (Nat.le_of_ble_eq_true rfl) (fun L => ?_)
 unfold swagelaw14_Few.f at h
 refine TC.seq ?_
 refine TC.region ?_
 refine TL.cons (TL.box (cs := [.int .i64 a0.f0, .slice A1 a0.f1.length c2]) rfl rfl rfl rfl (fun b5 => ?_))
 refine TL.cons (TO.val rfl rfl rfl (Val.assign rfl) ?_)
 refine TL.nil ?_
 refine TQ.then_ ?_
 refine TC.seq ?_
 refine TC.region ?_
 refine TL.cons (TO.val rfl rfl rfl (Val.assign rfl) ?_)
 refine TL.nil ?_
 refine TQ.then_ ?_
 refine TC.seq ?_
 refine TC.seq ?_
 refine TC.region ?_
 refine TL.cons (TO.val rfl rfl rfl (Val.assign rfl) ?_)
 refine TL.nil ?_
 refine TQ.then_ ?_
 obtain ⟨o1226, ho1226, ko1226⟩ := bind_no h
 clear h
 refine TC.tail (fun a W => ∃ (x1225 : Int), (.inr x1225) = o1226 ∧ Fr 61 a [(1, .pointer (some ⟨b5, 0, none⟩)), (3, .int .i64 x1225)] ∧ Own G (Blk b5 [.int .i64 a0.f0, .slice A1 a0.f1.length c2] 36 :: L) W) ?_ ?_
 ·
  rintro a W ⟨x1225, rfl, hF, hO⟩
  have h := ko1226
  clear ko1226 ho1226
  refine TQ.use ?_ hF hO
  clear hF hO
  refine TQ.then_ ?_
  refine TC.seq ?_
  refine TC.region ?_
  refine TL.cons (TO.val rfl rfl rfl (Val.fieldAddrB Try.underlying36 rfl fsz34 rfl rfl rfl) ?_)
  refine TL.cons (TO.val rfl rfl rfl (Val.loadB 0 agg34 rfl rfl rfl) ?_)
  refine TL.cons (TO.val rfl rfl rfl (Val.len Try.underlying34 rfl) ?_)
  refine TL.cons (TO.val rfl rfl rfl (Val.cmp rfl rfl run_leq) ?_)
  refine TL.cons (TO.val rfl rfl rfl (Val.move rfl) ?_)
  refine TK.split (p := (a0.f1.length : Int) ≤ 40) h (fun hg1636 h => ?_) (fun hg1636 h => ?_)
  ·
   have hk1637 : decide ((a0.f1.length : Int) ≤ 40) = true := decide_eq_true hg1636
   refine TL.cons (TO.val (Wt.yes rfl rfl rfl hk1637) rfl rfl (Val.move rfl) ?_)
   refine TL.cons (TO.val (Wt.yes rfl rfl rfl hk1637) rfl rfl (Val.cmp rfl rfl run_leq) ?_)
   refine TL.cons (TO.val rfl rfl rfl (Val.pickY rfl hk1637 rfl) ?_)
   refine TL.cons (TO.val rfl rfl rfl (Val.assign rfl) ?_)
   refine TL.nil ?_
   refine TQ.then_ ?_
   refine TC.ret ?_
   obtain rfl := Option.some.inj h
   exact TQ.fin (.inl rfl) rfl Try.results13 (.tmp rfl .nil) rfl (FRel.mk (Ls := []) [] 1 (Gd.le.refl _) rfl rfl rfl ⟨rfl, rfl, rfl⟩)
  ·
   have hk1638 : decide ((a0.f1.length : Int) ≤ 40) = false := decide_eq_false hg1636
   refine TL.cons (TL.not (Wt.no rfl rfl rfl hk1638) rfl ?_)
   refine TL.cons (TL.not (Wt.no rfl rfl rfl hk1638) rfl ?_)
   refine TL.cons (TO.val rfl rfl rfl (Val.pickN rfl hk1638 rfl) ?_)
   refine TL.cons (TO.val rfl rfl rfl (Val.assign rfl) ?_)
   refine TL.nil ?_
   refine TQ.then_ ?_
   refine TC.ret ?_
   obtain rfl := Option.some.inj h
   exact TQ.fin (.inl rfl) rfl Try.results13 (.tmp rfl .nil) rfl (FRel.mk (Ls := []) [] 1 (Gd.le.refl _) rfl rfl rfl ⟨rfl, rfl, rfl⟩)
 ·
  refine TC.block ?_
  intro a W hF hO
  have hS : ∃ (x818 : Int) (x819 : Int), swagelaw14_Few.l0 a0 (a0.f1.length + 1) x818 x819 = some o1226 ∧ Fr 61 a [(1, .pointer (some ⟨b5, 0, none⟩)), (3, .int .i64 x818), (4, .int .i64 x819)] ∧ Own G (Blk b5 [.int .i64 a0.f0, .slice A1 a0.f1.length c2] 36 :: L) W := by
   exact ⟨0, 0, ho1226, hF.sub ⟨rfl, rfl, rfl, trivial⟩, hO.selT (Ls := [Blk b5 [.int .i64 a0.f0, .slice A1 a0.f1.length c2] 36]) [0] 1 rfl rfl rfl⟩
  clear hF hO ho1226
  refine TC.loop (fun n1227 a W => ∃ (x818 : Int) (x819 : Int), swagelaw14_Few.l0 a0 n1227 x818 x819 = some o1226 ∧ Fr 61 a [(1, .pointer (some ⟨b5, 0, none⟩)), (3, .int .i64 x818), (4, .int .i64 x819)] ∧ Own G (Blk b5 [.int .i64 a0.f0, .slice A1 a0.f1.length c2] 36 :: L) W) ?_ ?_ hS
  ·
   rintro a W ⟨x818, x819, h, hF, hO⟩
   exact none_no h
  ·
   clear hS
   rintro n1227 a W ⟨x818, x819, h, hF, hO⟩
   rw [swagelaw14_Few.l0] at h
   refine TC.use ?_ hF hO
   clear hF hO
   refine TC.seq ?_
   refine TC.seq ?_
   obtain ⟨j1643, hj1643, h⟩ := jn_no h
   refine TC.tail (fun a W => ∃ (x1642 : Bool), j1643 x1642 = some o1226 ∧ Fr 61 a [(1, .pointer (some ⟨b5, 0, none⟩)), (3, .int .i64 x818), (4, .int .i64 x819), (14, .bool x1642)] ∧ Own G (Blk b5 [.int .i64 a0.f0, .slice A1 a0.f1.length c2] 36 :: L) W) ?_ ?_
   ·
    rintro a W ⟨x1642, h, hF, hO⟩
    rw [hj1643] at h
    refine TQ.use ?_ hF hO
    clear hF hO
    refine TQ.then_ ?_
    refine TC.cond_b rfl h (fun hc1645 h => ?_) (fun hc1645 h => ?_)
    ·
     refine TC.skip ?_
     refine TQ.then_ ?_
     refine TC.seq ?_
     refine TC.block ?_
     refine TC.seq ?_
     refine TC.region ?_
     refine TL.cons (TO.val rfl rfl rfl (Val.move rfl) ?_)
     refine TL.cons (TO.val rfl rfl rfl (Val.fieldAddrB Try.underlying36 rfl fsz34 rfl rfl rfl) ?_)
     refine TL.cons (TO.val rfl rfl rfl (Val.loadB 0 agg34 rfl rfl rfl) ?_)
     refine TL.cons (TO.val rfl rfl rfl (Val.move rfl) ?_)
     obtain ⟨y1934, hx1935, h⟩ := bind_no h
     obtain ⟨ad1936, cs1942, hA1937, hi1938, hj1939, hcl1940, hK1941⟩ := Rd.at hr3 hx1935
     obtain ⟨A1943, c1944, rfl, hr1945, hl1946⟩ := k28_openR hK1941
     refine TL.cons (TO.val rfl rfl rfl (Val.indexAddr Try.underlying34 fsz28 rfl hA1937 rfl hi1938 hj1939) ?_)
     refine TL.cons (TO.val rfl rfl rfl (Val.fieldAddrE Try.underlying28 rfl fsz26 rfl rfl) ?_)
     refine TL.cons (TO.val rfl rfl rfl (Val.loadS agg26 rfl (hcl1940 0 _ rfl)) ?_)
     refine TL.cons (TO.val rfl rfl rfl (Val.len Try.underlying26 rfl) ?_)
     refine TL.cons (TO.val rfl rfl rfl (Val.cmp rfl rfl run_add) ?_)
     refine TL.cons (TO.val rfl rfl rfl (Val.assign rfl) ?_)
     refine TL.nil ?_
     refine TQ.then_ ?_
     refine TC.seq ?_
     refine TC.region ?_
     refine TL.cons (TO.val rfl rfl rfl (Val.assign rfl) ?_)
     refine TL.nil ?_
     refine TQ.then_ ?_
     obtain ⟨o2225, ho2225, ko2225⟩ := bind_no h
     clear h
     refine TC.tail (fun a W => (.inr ()) = o2225 ∧ Fr 61 a [(1, .pointer (some ⟨b5, 0, none⟩)), (3, .int .i64 (IntKind.i64.wrap (x818 + (y1934.f0.length : Int)))), (4, .int .i64 x819)] ∧ Own G (Blk b5 [.int .i64 a0.f0, .slice A1 a0.f1.length c2] 36 :: L) W) ?_ ?_
     ·
      rintro a W ⟨rfl, hF, hO⟩
      have h := ko2225
      clear ko2225 ho2225
      refine TQ.use ?_ hF hO
      clear hF hO
      refine TQ.inB ?_
      refine TQ.then_ ?_
      refine TC.region ?_
      refine TL.cons (TO.val rfl rfl rfl (Val.move rfl) ?_)
      refine TL.cons (TO.val rfl rfl rfl (Val.cmp rfl rfl run_add) ?_)
      refine TL.cons (TO.val rfl rfl rfl (Val.assign rfl) ?_)
      refine TL.nil ?_
      exact fun a W hF hO => ⟨IntKind.i64.wrap (x818 + (y1934.f0.length : Int)), IntKind.i64.wrap (x819 + 1), h, hF.sub ⟨rfl, rfl, rfl, trivial⟩, hO.selT (Ls := [Blk b5 [.int .i64 a0.f0, .slice A1 a0.f1.length c2] 36]) [0] 1 rfl rfl rfl⟩
     ·
      refine TC.block ?_
      intro a W hF hO
      have hS : ∃ (x2132 : Int), swagelaw14_Few.l1 a0 x819 ((at? a0.f1 x819).elim 0 (fun vy2227 => vy2227.f0.length) + 1) x2132 = some o2225 ∧ Fr 61 a [(1, .pointer (some ⟨b5, 0, none⟩)), (3, .int .i64 (IntKind.i64.wrap (x818 + (y1934.f0.length : Int)))), (4, .int .i64 x819), (5, .int .i64 x2132)] ∧ Own G (Blk b5 [.int .i64 a0.f0, .slice A1 a0.f1.length c2] 36 :: L) W := by
       exact ⟨0, ho2225, hF.sub ⟨rfl, rfl, rfl, rfl, trivial⟩, hO.selT (Ls := [Blk b5 [.int .i64 a0.f0, .slice A1 a0.f1.length c2] 36]) [0] 1 rfl rfl rfl⟩
      clear hF hO ho2225
      refine TC.loop (fun n2226 a W => ∃ (x2132 : Int), swagelaw14_Few.l1 a0 x819 n2226 x2132 = some o2225 ∧ Fr 61 a [(1, .pointer (some ⟨b5, 0, none⟩)), (3, .int .i64 (IntKind.i64.wrap (x818 + (y1934.f0.length : Int)))), (4, .int .i64 x819), (5, .int .i64 x2132)] ∧ Own G (Blk b5 [.int .i64 a0.f0, .slice A1 a0.f1.length c2] 36 :: L) W) ?_ ?_ hS
      ·
       rintro a W ⟨x2132, h, hF, hO⟩
       exact none_no h
      ·
       clear hS
       rintro n2226 a W ⟨x2132, h, hF, hO⟩
       rw [swagelaw14_Few.l1] at h
       refine TC.use ?_ hF hO
       clear hF hO
       refine TC.seq ?_
       refine TC.seq ?_
       obtain ⟨j2336, hj2336, h⟩ := jn_no h
       refine TC.tail (fun a W => ∃ (x2335 : Bool), j2336 x2335 = some o2225 ∧ Fr 61 a [(1, .pointer (some ⟨b5, 0, none⟩)), (3, .int .i64 (IntKind.i64.wrap (x818 + (y1934.f0.length : Int)))), (4, .int .i64 x819), (5, .int .i64 x2132), (38, .bool x2335)] ∧ Own G (Blk b5 [.int .i64 a0.f0, .slice A1 a0.f1.length c2] 36 :: L) W) ?_ ?_
       ·
        rintro a W ⟨x2335, h, hF, hO⟩
        rw [hj2336] at h
        refine TQ.use ?_ hF hO
        clear hF hO
        refine TQ.then_ ?_
        refine TC.cond_b rfl h (fun hc2338 h => ?_) (fun hc2338 h => ?_)
        ·
         refine TC.skip ?_
         refine TQ.then_ ?_
         refine TC.seq ?_
         refine TC.block ?_
         refine TC.seq ?_
         refine TC.region ?_
         refine TL.cons (TO.val rfl rfl rfl (Val.fieldAddrB Try.underlying36 rfl fsz34 rfl rfl rfl) ?_)
         refine TL.cons (TO.val rfl rfl rfl (Val.loadB 0 agg34 rfl rfl rfl) ?_)
         refine TL.cons (TO.val rfl rfl rfl (Val.move rfl) ?_)
         obtain ⟨y2367, hx2368, h⟩ := bind_no h
         obtain ⟨ad2369, cs2375, hA2370, hi2371, hj2372, hcl2373, hK2374⟩ := Rd.at hr3 hx2368
         obtain ⟨A2376, c2377, rfl, hr2378, hl2379⟩ := k28_openR hK2374
         refine TL.cons (TO.val rfl rfl rfl (Val.indexAddr Try.underlying34 fsz28 rfl hA2370 rfl hi2371 hj2372) ?_)
         refine TL.cons (TO.val rfl rfl rfl (Val.fieldAddrE Try.underlying28 rfl fsz26 rfl rfl) ?_)
         refine TL.cons (TO.val rfl rfl rfl (Val.loadS agg26 rfl (hcl2373 0 _ rfl)) ?_)
         refine TL.cons (TO.val rfl rfl rfl (Val.move rfl) ?_)
         obtain ⟨y2380, hx2381, h⟩ := bind_no h
         obtain ⟨ad2382, cs2388, hA2383, hi2384, hj2385, hcl2386, hK2387⟩ := Rd.at hr2378 hx2381
         obtain ⟨A2389, c2390, rfl, hr2391, hl2392⟩ := k30_openR hK2387
         refine TL.cons (TO.val rfl rfl rfl (Val.indexAddr Try.underlying26 fsz30 rfl hA2383 rfl hi2384 hj2385) ?_)
         refine TL.cons (TO.val rfl rfl rfl (Val.fieldAddrE Try.underlying30 rfl fsz22 rfl rfl) ?_)
         refine TL.cons (TO.val rfl rfl rfl (Val.loadS agg22 rfl (hcl2386 5 _ rfl)) ?_)
         refine TL.cons (TO.val rfl rfl rfl (Val.len Try.underlying22 rfl) ?_)
         refine TL.cons (TO.val rfl rfl rfl (Val.cmp rfl rfl run_gtr) ?_)
         refine TL.nil ?_
         refine TQ.then_ ?_
         refine TC.cond_p rfl h (fun hc2394 h => ?_) (fun hc2394 h => ?_)
         ·
          refine TC.seq ?_
          refine TC.region ?_
          refine TL.cons (TO.val rfl rfl rfl (Val.assign rfl) ?_)
          refine TL.nil ?_
          refine TQ.then_ ?_
          refine TC.ret ?_
          refine TQ.inBR ?_
          refine TQ.thenR ?_
          refine TQ.thenR ?_
          refine TQ.inBR ?_
          refine TQ.thenR ?_
          refine TQ.inBR ?_
          refine TQ.thenR ?_
          refine TQ.thenR ?_
          refine TQ.inBR ?_
          refine TQ.thenR ?_
          refine TQ.thenR ?_
          obtain rfl := Option.some.inj h
          have h := ko2225
          obtain rfl := Option.some.inj h
          have h := ko1226
          obtain rfl := Option.some.inj h
          exact TQ.fin (.inl rfl) rfl Try.results13 (.tmp rfl .nil) rfl (FRel.mk (Ls := []) [] 1 (Gd.le.refl _) rfl rfl rfl ⟨rfl, rfl, rfl⟩)
         ·
          refine TC.skip ?_
          refine TQ.inB ?_
          refine TQ.then_ ?_
          refine TC.region ?_
          refine TL.cons (TO.val rfl rfl rfl (Val.move rfl) ?_)
          refine TL.cons (TO.val rfl rfl rfl (Val.cmp rfl rfl run_add) ?_)
          refine TL.cons (TO.val rfl rfl rfl (Val.assign rfl) ?_)
          refine TL.nil ?_
          exact fun a W hF hO => ⟨IntKind.i64.wrap (x2132 + 1), h, hF.sub ⟨rfl, rfl, rfl, rfl, trivial⟩, hO.selT (Ls := [Blk b5 [.int .i64 a0.f0, .slice A1 a0.f1.length c2] 36]) [0] 1 rfl rfl rfl⟩
        ·
         refine TC.exit ?_
         refine TQ.thenX ?_
         refine TQ.thenX ?_
         refine TQ.inBX ?_
         exact fun a W hF hO => ⟨Option.some.inj h, hF.sub ⟨rfl, rfl, rfl, trivial⟩, hO.selT (Ls := [Blk b5 [.int .i64 a0.f0, .slice A1 a0.f1.length c2] 36]) [0] 1 rfl rfl rfl⟩
       ·
        refine TC.region ?_
        refine TL.cons (TO.val rfl rfl rfl (Val.move rfl) ?_)
        refine TL.cons (TO.val rfl rfl rfl (Val.fieldAddrB Try.underlying36 rfl fsz34 rfl rfl rfl) ?_)
        refine TL.cons (TO.val rfl rfl rfl (Val.loadB 0 agg34 rfl rfl rfl) ?_)
        refine TL.cons (TO.val rfl rfl rfl (Val.move rfl) ?_)
        obtain ⟨y2395, hx2396, h⟩ := bind_no h
        obtain ⟨ad2397, cs2403, hA2398, hi2399, hj2400, hcl2401, hK2402⟩ := Rd.at hr3 hx2396
        obtain ⟨A2404, c2405, rfl, hr2406, hl2407⟩ := k28_openR hK2402
        refine TL.cons (TO.val rfl rfl rfl (Val.indexAddr Try.underlying34 fsz28 rfl hA2398 rfl hi2399 hj2400) ?_)
        refine TL.cons (TO.val rfl rfl rfl (Val.fieldAddrE Try.underlying28 rfl fsz26 rfl rfl) ?_)
        refine TL.cons (TO.val rfl rfl rfl (Val.loadS agg26 rfl (hcl2401 0 _ rfl)) ?_)
        refine TL.cons (TO.val rfl rfl rfl (Val.len Try.underlying26 rfl) ?_)
        refine TL.cons (TO.val rfl rfl rfl (Val.cmp rfl rfl run_lss) ?_)
        refine TL.cons (TO.val rfl rfl rfl (Val.move rfl) ?_)
        refine TK.split (p := x2132 < (y2395.f0.length : Int)) h (fun hg2408 h => ?_) (fun hg2408 h => ?_)
        ·
         have hk2409 : decide (x2132 < (y2395.f0.length : Int)) = true := decide_eq_true hg2408
         refine TL.cons (TO.val (Wt.yes rfl rfl rfl hk2409) rfl rfl (Val.move rfl) ?_)
         refine TL.cons (TO.val (Wt.yes rfl rfl rfl hk2409) rfl rfl (Val.cmp rfl rfl run_lss) ?_)
         refine TL.cons (TO.val rfl rfl rfl (Val.pickY rfl hk2409 rfl) ?_)
         refine TL.nil ?_
         exact fun a W hF hO => ⟨decide (x2132 < 300), h, hF.sub ⟨rfl, rfl, rfl, rfl, rfl, trivial⟩, hO.selT (Ls := [Blk b5 [.int .i64 a0.f0, .slice A1 a0.f1.length c2] 36]) [0] 1 rfl rfl rfl⟩
        ·
         have hk2410 : decide (x2132 < (y2395.f0.length : Int)) = false := decide_eq_false hg2408
         refine TL.cons (TL.not (Wt.no rfl rfl rfl hk2410) rfl ?_)
         refine TL.cons (TL.not (Wt.no rfl rfl rfl hk2410) rfl ?_)
         refine TL.cons (TO.val rfl rfl rfl (Val.pickN rfl hk2410 rfl) ?_)
         refine TL.nil ?_
         exact fun a W hF hO => ⟨false, h, hF.sub ⟨rfl, rfl, rfl, rfl, rfl, trivial⟩, hO.selT (Ls := [Blk b5 [.int .i64 a0.f0, .slice A1 a0.f1.length c2] 36]) [0] 1 rfl rfl rfl⟩
    ·
     refine TC.exit ?_
     refine TQ.thenX ?_
     refine TQ.thenX ?_
     refine TQ.inBX ?_
     exact fun a W hF hO => ⟨x818, Option.some.inj h, hF.sub ⟨rfl, rfl, trivial⟩, hO.selT (Ls := [Blk b5 [.int .i64 a0.f0, .slice A1 a0.f1.length c2] 36]) [0] 1 rfl rfl rfl⟩
   ·
    refine TC.region ?_
    refine TL.cons (TO.val rfl rfl rfl (Val.move rfl) ?_)
    refine TL.cons (TO.val rfl rfl rfl (Val.fieldAddrB Try.underlying36 rfl fsz34 rfl rfl rfl) ?_)
    refine TL.cons (TO.val rfl rfl rfl (Val.loadB 0 agg34 rfl rfl rfl) ?_)
    refine TL.cons (TO.val rfl rfl rfl (Val.len Try.underlying34 rfl) ?_)
    refine TL.cons (TO.val rfl rfl rfl (Val.cmp rfl rfl run_lss) ?_)
    refine TL.cons (TO.val rfl rfl rfl (Val.move rfl) ?_)
    refine TK.split (p := x819 < (a0.f1.length : Int)) h (fun hg2411 h => ?_) (fun hg2411 h => ?_)
    ·
     have hk2412 : decide (x819 < (a0.f1.length : Int)) = true := decide_eq_true hg2411
     refine TL.cons (TO.val (Wt.yes rfl rfl rfl hk2412) rfl rfl (Val.move rfl) ?_)
     refine TL.cons (TO.val (Wt.yes rfl rfl rfl hk2412) rfl rfl (Val.cmp rfl rfl run_lss) ?_)
     refine TL.cons (TO.val rfl rfl rfl (Val.pickY rfl hk2412 rfl) ?_)
     refine TL.nil ?_
     exact fun a W hF hO => ⟨decide (x819 < 100), h, hF.sub ⟨rfl, rfl, rfl, rfl, trivial⟩, hO.selT (Ls := [Blk b5 [.int .i64 a0.f0, .slice A1 a0.f1.length c2] 36]) [0] 1 rfl rfl rfl⟩
    ·
     have hk2413 : decide (x819 < (a0.f1.length : Int)) = false := decide_eq_false hg2411
     refine TL.cons (TL.not (Wt.no rfl rfl rfl hk2413) rfl ?_)
     refine TL.cons (TL.not (Wt.no rfl rfl rfl hk2413) rfl ?_)
     refine TL.cons (TO.val rfl rfl rfl (Val.pickN rfl hk2413 rfl) ?_)
     refine TL.nil ?_
     exact fun a W hF hO => ⟨false, h, hF.sub ⟨rfl, rfl, rfl, rfl, trivial⟩, hO.selT (Ls := [Blk b5 [.int .i64 a0.f0, .slice A1 a0.f1.length c2] 36]) [0] 1 rfl rfl rfl⟩
end Go.Proofs.Ytmacdhkfgoahcaa.Sy
set_option linter.unusedVariables false
set_option linter.unusedSimpArgs false
set_option maxRecDepth 100000
set_option maxHeartbeats 4000000
namespace Go.Proofs.Ytmacdhkfgoahcaa.Sy
open Go Go.RowKit Go.Proofs.YtmacdhkfgoahcaaW.PrintWords 
def code_within.f (a0 : Int) (a1 : Int) (a2 : Int) : Option Bool := (if a1 ≤ a0 then some (decide (a0 ≤ a2)) else some false)
def code_within.post (G : Gd)  (r : Bool) (v : Value) (G' : Gd) (Lr : List Ch) : Prop := G = G' ∧ v = .bool r ∧ Lr = []
theorem code_within.calls {G : Gd} {r : Bool} {a0 : Int} {a1 : Int} {a2 : Int} (h : code_within.f a0 a1 a2 = some r) : Fn Try.prog 45 G [] [.int .i64 a0, .int .i64 a1, .int .i64 a2] (code_within.post G  r) := by
 refine Fn.intro (e := [(0, .int .i64 a0), (1, .int .i64 a1), (2, .int .i64 a2)]) 15 Try.func45 rfl Try.ntmps45 rfl rfl (Nat.le_of_ble_eq_true rfl) (fun L => ?_)
 unfold code_within.f at h
 refine TC.seq ?_
 refine TC.region ?_
 refine TL.cons (TO.val rfl rfl rfl (Val.assign rfl) ?_)
 refine TL.nil ?_
 refine TQ.then_ ?_
 refine TC.seq ?_
 refine TC.region ?_
 refine TL.cons (TO.val rfl rfl rfl (Val.move rfl) ?_)
 refine TL.cons (TO.val rfl rfl rfl (Val.move rfl) ?_)
 refine TL.cons (TO.val rfl rfl rfl (Val.cmp rfl rfl run_geq) ?_)
 refine TL.cons (TO.val rfl rfl rfl (Val.move rfl) ?_)
 refine TK.split (p := a1 ≤ a0) h (fun hg4 h => ?_) (fun hg4 h => ?_)
 ·
  have hk5 : decide (a1 ≤ a0) = true := decide_eq_true hg4
  refine TL.cons (TO.val (Wt.yes rfl rfl rfl hk5) rfl rfl (Val.move rfl) ?_)
  refine TL.cons (TO.val (Wt.yes rfl rfl rfl hk5) rfl rfl (Val.move rfl) ?_)
  refine TL.cons (TO.val (Wt.yes rfl rfl rfl hk5) rfl rfl (Val.cmp rfl rfl run_leq) ?_)
  refine TL.cons (TO.val rfl rfl rfl (Val.pickY rfl hk5 rfl) ?_)
  refine TL.cons (TO.val rfl rfl rfl (Val.assign rfl) ?_)
  refine TL.nil ?_
  refine TQ.then_ ?_
  refine TC.ret ?_
  obtain rfl := Option.some.inj h
  exact TQ.fin (.inl rfl) rfl Try.results45 (.tmp rfl .nil) rfl (FRel.mk (Ls := []) [] 0 (Gd.le.refl _) rfl rfl rfl ⟨rfl, rfl, rfl⟩)
 ·
  have hk6 : decide (a1 ≤ a0) = false := decide_eq_false hg4
  refine TL.cons (TL.not (Wt.no rfl rfl rfl hk6) rfl ?_)
  refine TL.cons (TL.not (Wt.no rfl rfl rfl hk6) rfl ?_)
  refine TL.cons (TL.not (Wt.no rfl rfl rfl hk6) rfl ?_)
  refine TL.cons (TO.val rfl rfl rfl (Val.pickN rfl hk6 rfl) ?_)
  refine TL.cons (TO.val rfl rfl rfl (Val.assign rfl) ?_)
  refine TL.nil ?_
  refine TQ.then_ ?_
  refine TC.ret ?_
  obtain rfl := Option.some.inj h
  exact TQ.fin (.inl rfl) rfl Try.results45 (.tmp rfl .nil) rfl (FRel.mk (Ls := []) [] 0 (Gd.le.refl _) rfl rfl rfl ⟨rfl, rfl, rfl⟩)
end Go.Proofs.Ytmacdhkfgoahcaa.Sy
set_option linter.unusedVariables false
set_option linter.unusedSimpArgs false
set_option maxRecDepth 100000
set_option maxHeartbeats 4000000
namespace Go.Proofs.Ytmacdhkfgoahcaa.Sy
open Go Go.RowKit Go.Proofs.YtmacdhkfgoahcaaW.PrintWords 
def code_reg.f (a0 : Int) : Option Bool := (code_within.f a0 1 4096).bind fun (y1 : Bool) => some y1
def code_reg.post (G : Gd)  (r : Bool) (v : Value) (G' : Gd) (Lr : List Ch) : Prop := G = G' ∧ v = .bool r ∧ Lr = []
theorem code_reg.calls {G : Gd} {r : Bool} {a0 : Int} (h : code_reg.f a0 = some r) : Fn Try.prog 70 G [] [.int .i64 a0] (code_reg.post G  r) := by
 refine Fn.intro (e := [(0, .int .i64 a0)]) 5 Try.func70 rfl Try.ntmps70 rfl rfl (Nat.le_of_ble_eq_true rfl) (fun L => ?_)
 unfold code_reg.f at h
 refine TC.seq ?_
 refine TC.region ?_
 refine TL.cons (TO.val rfl rfl rfl (Val.assign rfl) ?_)
 refine TL.nil ?_
 refine TQ.then_ ?_
 refine TC.seq ?_
 refine TC.region ?_
 refine TL.cons (TO.val rfl rfl rfl (Val.move rfl) ?_)
 obtain ⟨y1, hy2, h⟩ := bind_no h
 refine TL.cons (TL.callV (Lin := []) (args := [.int .i64 a0, .int .i64 1, .int .i64 4096]) rfl rfl rfl hbd45 rfl rfl (code_within.calls (a0 := a0) (a1 := 1) (a2 := 4096) hy2) rfl ?_)
 rintro _ _ _ _ ⟨rfl, rfl, rfl⟩
 refine TL.cons (TO.val rfl rfl rfl (Val.assign rfl) ?_)
 refine TL.nil ?_
 refine TQ.then_ ?_
 refine TC.ret ?_
 obtain rfl := Option.some.inj h
 exact TQ.fin (.inl rfl) rfl Try.results70 (.tmp rfl .nil) rfl (FRel.mk (Ls := []) [] 0 (Gd.le.refl _) rfl rfl rfl ⟨rfl, rfl, rfl⟩)
end Go.Proofs.Ytmacdhkfgoahcaa.Sy
set_option linter.unusedVariables false
set_option linter.unusedSimpArgs false
set_option maxRecDepth 100000
set_option maxHeartbeats 4000000
namespace Go.Proofs.Ytmacdhkfgoahcaa.Sy
open Go Go.RowKit Go.Proofs.YtmacdhkfgoahcaaW.PrintWords 
def code_rightTerm.f (a0 : S25) (a1 : Int) : Option Bool := (if a0.f0 = 1 then (code_within.f a0.f2 0 (IntKind.i64.wrap (a1 - 1))).bind fun (y359 : Bool) => (if y359 = true then some ((a0.f0 == a0.f0) && ((a0.f1 == 0) && ((a0.f2 == a0.f2) && (a0.f3 == 0)))) else some false) else (if a0.f0 = 2 then (code_within.f a0.f2 0 (IntKind.i64.wrap (a1 - 1))).bind fun (y452 : Bool) => (if y452 = true then (code_within.f a0.f3 0 (IntKind.i64.wrap (a1 - 1))).bind fun (y460 : Bool) => (if y460 = true then (code_reg.f a0.f1).bind fun (y464 : Bool) => some y464 else some false) else some false) else (if a0.f0 = 3 then (code_reg.f a0.f1).bind fun (y496 : Bool) => (if y496 = true then some ((a0.f0 == a0.f0) && ((a0.f1 == a0.f1) && ((a0.f2 == 0) && (a0.f3 == 0)))) else some false) else (if a0.f0 = 4 then (code_within.f a0.f2 1 15).bind fun (y518 : Bool) => (if y518 = true then some ((a0.f0 == a0.f0) && ((a0.f1 == 0) && ((a0.f2 == a0.f2) && (a0.f3 == 0)))) else some false) else some false))))
def code_rightTerm.post (G : Gd)  (r : Bool) (v : Value) (G' : Gd) (Lr : List Ch) : Prop := G = G' ∧ v = .bool r ∧ Lr = []
theorem code_rightTerm.calls {G : Gd} {r : Bool} {a0 : S25} {a1 : Int} (h : code_rightTerm.f a0 a1 = some r) : Fn Try.prog 48 G [] [.agg #[.int .i64 a0.f0, .int .i64 a0.f1, .int .i64 a0.f2, .int .i64 a0.f3], .int .i64 a1] (code_rightTerm.post G  r) := by
 refine Fn.intro (e := [(0, .agg #[.int .i64 a0.f0, .int .i64 a0.f1, .int .i64 a0.f2, .int .i64 a0.f3]), (1, .int .i64 a1)]) 69 Try.func48 rfl Try.ntmps48 rfl rfl (Nat.le_of_ble_eq_true rfl) (fun L => ?_)
 unfold code_rightTerm.f at h
 refine TC.seq ?_
 refine TC.region ?_
 refine TL.cons (TL.box (cs := [.int .i64 a0.f0, .int .i64 a0.f1, .int .i64 a0.f2, .int .i64 a0.f3]) rfl rfl rfl rfl (fun b1 => ?_))
 refine TL.cons (TL.box (cs := [.int .i64 a1]) rfl rfl rfl rfl (fun b2 => ?_))
 refine TL.cons (TO.val rfl rfl rfl (Val.assign rfl) ?_)
 refine TL.nil ?_
 refine TQ.then_ ?_
 refine TC.seq ?_
 refine TC.region ?_
 refine TL.cons (TO.val rfl rfl rfl (Val.makeFunc (xs := []) (ys := [.pointer (some ⟨b2, 0, none⟩)]) rfl rfl) ?_)
 refine TL.cons (TO.val rfl rfl rfl (Val.assign rfl) ?_)
 refine TL.nil ?_
 refine TQ.then_ ?_
 refine TC.seq ?_
 refine TC.seq ?_
 refine TC.region ?_
 refine TL.cons (TO.val rfl rfl rfl (Val.fieldAddrB Try.underlying25 rfl fsz3 rfl rfl rfl) ?_)
 refine TL.cons (TO.val rfl rfl rfl (Val.loadB 1 agg3 rfl rfl rfl) ?_)
 refine TL.nil ?_
 refine TQ.then_ ?_
 refine TC.block ?_
 refine TC.seq ?_
 refine TC.region ?_
 refine TL.cons (TO.val rfl rfl rfl (Val.cmp rfl rfl run_eql) ?_)
 refine TL.cons (TO.val rfl rfl rfl (Val.assign rfl) ?_)
 refine TL.nil ?_
 refine TQ.then_ ?_
 refine TC.cond_p rfl h (fun hc345 h => ?_) (fun hc345 h => ?_)
 ·
  refine TC.seq ?_
  refine TC.region ?_
  refine TL.cons (TO.val rfl rfl rfl (Val.move rfl) ?_)
  refine TL.cons (TO.val rfl rfl rfl (Val.fieldAddrB Try.underlying25 rfl fsz3 rfl rfl rfl) ?_)
  refine TL.cons (TO.val rfl rfl rfl (Val.loadB 1 agg3 rfl rfl rfl) ?_)
  refine TL.cons (TO.inl (args := [.int .i64 a0.f2, .pointer (some ⟨b2, 0, none⟩)]) (e' := [(0, .int .i64 a0.f2), (1, .pointer (some ⟨b2, 0, none⟩))]) 8 rfl rfl hbd69 rfl rfl Try.func69 rfl Try.ntmps69 rfl rfl (Nat.le_of_ble_eq_true rfl) (fun a355 hf356 => ?_))
  refine TC.seq ?_
  refine TC.region ?_
  refine TL.cons (TO.val rfl rfl rfl (Val.assign rfl) ?_)
  refine TL.nil ?_
  refine TQ.then_ ?_
  refine TC.seq ?_
  refine TC.region ?_
  refine TL.cons (TO.val rfl rfl rfl (Val.move rfl) ?_)
  refine TL.cons (TO.val rfl rfl rfl (Val.loadB 0 agg3 rfl rfl rfl) ?_)
  refine TL.cons (TO.val rfl rfl rfl (Val.cmp rfl rfl run_sub) ?_)
  obtain ⟨y359, hy360, h⟩ := bind_no h
  refine TL.cons (TL.callV (Lin := []) (args := [.int .i64 a0.f2, .int .i64 0, .int .i64 (IntKind.i64.wrap (a1 - 1))]) rfl rfl rfl hbd45 rfl rfl (code_within.calls (a0 := a0.f2) (a1 := 0) (a2 := IntKind.i64.wrap (a1 - 1)) hy360) rfl ?_)
  rintro _ _ _ _ ⟨rfl, rfl, rfl⟩
  refine TL.cons (TO.val rfl rfl rfl (Val.assign rfl) ?_)
  refine TL.nil ?_
  refine TQ.then_ ?_
  refine TC.ret ?_
  refine TQ.fin (v := .bool y359) (.inl rfl) rfl Try.results69 (.tmp rfl .nil) rfl (After.mk hf356 rfl ?_)
  refine TL.cons (TO.val rfl rfl rfl (Val.move rfl) ?_)
  refine TK.split (p := y359 = true) h (fun hg361 h => ?_) (fun hg361 h => ?_)
  ·
   have hk362 : y359 = true := hg361
   refine TL.cons (TO.val (Wt.yes rfl rfl rfl hk362) rfl rfl (Val.loadsB 1 (cs := [.int .i64 a0.f0, .int .i64 a0.f1, .int .i64 a0.f2, .int .i64 a0.f3]) agg25 fsz25 rfl rfl rfl rfl) ?_)
   refine TL.cons (TO.val (Wt.yes rfl rfl rfl hk362) rfl rfl (Val.fieldAddrB Try.underlying25 rfl fsz3 rfl rfl rfl) ?_)
   refine TL.cons (TO.val (Wt.yes rfl rfl rfl hk362) rfl rfl (Val.loadB 1 agg3 rfl rfl rfl) ?_)
   refine TL.cons (TO.val (Wt.yes rfl rfl rfl hk362) rfl rfl (Val.fieldAddrB Try.underlying25 rfl fsz3 rfl rfl rfl) ?_)
   refine TL.cons (TO.val (Wt.yes rfl rfl rfl hk362) rfl rfl (Val.loadB 1 agg3 rfl rfl rfl) ?_)
   refine TL.cons (TO.val (Wt.yes rfl rfl rfl hk362) rfl rfl (Val.build (cs := [.int .i64 a0.f0, .int .i64 0, .int .i64 a0.f2, .int .i64 0]) (is := [0, 2]) (xs := [.tmp 18, .tmp 20]) Try.underlying25 zr25 bld25 rfl rfl rfl rfl) ?_)
   refine TL.cons (TO.val (Wt.yes rfl rfl rfl hk362) rfl rfl (Val.eqA eqg25 rfl rfl (fun W => eqs25 9998 W _ _ _ _ _ _ _ _)) ?_)
   refine TL.cons (TO.val rfl rfl rfl (Val.pickY rfl hk362 rfl) ?_)
   refine TL.cons (TO.val rfl rfl rfl (Val.assign rfl) ?_)
   refine TL.nil ?_
   refine TQ.then_ ?_
   refine TC.ret ?_
   refine TQ.inBR ?_
   refine TQ.thenR ?_
   obtain rfl := Option.some.inj h
   exact TQ.fin (.inl rfl) rfl Try.results48 (.tmp rfl .nil) rfl (FRel.mk (Ls := []) [] 2 (Gd.le.refl _) rfl rfl rfl ⟨rfl, rfl, rfl⟩)
  ·
   have hk363 : y359 = false := (by simpa using hg361)
   refine TL.cons (TL.not (Wt.no rfl rfl rfl hk363) rfl ?_)
   refine TL.cons (TL.not (Wt.no rfl rfl rfl hk363) rfl ?_)
   refine TL.cons (TL.not (Wt.no rfl rfl rfl hk363) rfl ?_)
   refine TL.cons (TL.not (Wt.no rfl rfl rfl hk363) rfl ?_)
   refine TL.cons (TL.not (Wt.no rfl rfl rfl hk363) rfl ?_)
   refine TL.cons (TL.not (Wt.no rfl rfl rfl hk363) rfl ?_)
   refine TL.cons (TL.not (Wt.no rfl rfl rfl hk363) rfl ?_)
   refine TL.cons (TO.val rfl rfl rfl (Val.pickN rfl hk363 rfl) ?_)
   refine TL.cons (TO.val rfl rfl rfl (Val.assign rfl) ?_)
   refine TL.nil ?_
   refine TQ.then_ ?_
   refine TC.ret ?_
   refine TQ.inBR ?_
   refine TQ.thenR ?_
   obtain rfl := Option.some.inj h
   exact TQ.fin (.inl rfl) rfl Try.results48 (.tmp rfl .nil) rfl (FRel.mk (Ls := []) [] 2 (Gd.le.refl _) rfl rfl rfl ⟨rfl, rfl, rfl⟩)
 ·
  refine TC.seq ?_
  refine TC.region ?_
  refine TL.cons (TO.val rfl rfl rfl (Val.cmp rfl rfl run_eql) ?_)
  refine TL.cons (TO.val rfl rfl rfl (Val.assign rfl) ?_)
  refine TL.nil ?_
  refine TQ.then_ ?_
  refine TC.cond_p rfl h (fun hc427 h => ?_) (fun hc427 h => ?_)
  ·
   refine TC.seq ?_
   refine TC.region ?_
   refine TL.cons (TO.val rfl rfl rfl (Val.move rfl) ?_)
   refine TL.cons (TO.val rfl rfl rfl (Val.fieldAddrB Try.underlying25 rfl fsz3 rfl rfl rfl) ?_)
   refine TL.cons (TO.val rfl rfl rfl (Val.loadB 1 agg3 rfl rfl rfl) ?_)
   refine TL.cons (TO.inl (args := [.int .i64 a0.f2, .pointer (some ⟨b2, 0, none⟩)]) (e' := [(0, .int .i64 a0.f2), (1, .pointer (some ⟨b2, 0, none⟩))]) 8 rfl rfl hbd69 rfl rfl Try.func69 rfl Try.ntmps69 rfl rfl (Nat.le_of_ble_eq_true rfl) (fun a448 hf449 => ?_))
   refine TC.seq ?_
   refine TC.region ?_
   refine TL.cons (TO.val rfl rfl rfl (Val.assign rfl) ?_)
   refine TL.nil ?_
   refine TQ.then_ ?_
   refine TC.seq ?_
   refine TC.region ?_
   refine TL.cons (TO.val rfl rfl rfl (Val.move rfl) ?_)
   refine TL.cons (TO.val rfl rfl rfl (Val.loadB 0 agg3 rfl rfl rfl) ?_)
   refine TL.cons (TO.val rfl rfl rfl (Val.cmp rfl rfl run_sub) ?_)
   obtain ⟨y452, hy453, h⟩ := bind_no h
   refine TL.cons (TL.callV (Lin := []) (args := [.int .i64 a0.f2, .int .i64 0, .int .i64 (IntKind.i64.wrap (a1 - 1))]) rfl rfl rfl hbd45 rfl rfl (code_within.calls (a0 := a0.f2) (a1 := 0) (a2 := IntKind.i64.wrap (a1 - 1)) hy453) rfl ?_)
   rintro _ _ _ _ ⟨rfl, rfl, rfl⟩
   refine TL.cons (TO.val rfl rfl rfl (Val.assign rfl) ?_)
   refine TL.nil ?_
   refine TQ.then_ ?_
   refine TC.ret ?_
   refine TQ.fin (v := .bool y452) (.inl rfl) rfl Try.results69 (.tmp rfl .nil) rfl (After.mk hf449 rfl ?_)
   refine TL.cons (TO.val rfl rfl rfl (Val.move rfl) ?_)
   refine TK.split (p := y452 = true) h (fun hg454 h => ?_) (fun hg454 h => ?_)
   ·
    have hk455 : y452 = true := hg454
    refine TL.cons (TO.val (Wt.yes rfl rfl rfl hk455) rfl rfl (Val.move rfl) ?_)
    refine TL.cons (TO.val (Wt.yes rfl rfl rfl hk455) rfl rfl (Val.fieldAddrB Try.underlying25 rfl fsz3 rfl rfl rfl) ?_)
    refine TL.cons (TO.val (Wt.yes rfl rfl rfl hk455) rfl rfl (Val.loadB 1 agg3 rfl rfl rfl) ?_)
    refine TL.cons (TO.inl (args := [.int .i64 a0.f3, .pointer (some ⟨b2, 0, none⟩)]) (e' := [(0, .int .i64 a0.f3), (1, .pointer (some ⟨b2, 0, none⟩))]) 8 (Wt.yes rfl rfl rfl hk455) rfl hbd69 rfl rfl Try.func69 rfl Try.ntmps69 rfl rfl (Nat.le_of_ble_eq_true rfl) (fun a456 hf457 => ?_))
    refine TC.seq ?_
    refine TC.region ?_
    refine TL.cons (TO.val rfl rfl rfl (Val.assign rfl) ?_)
    refine TL.nil ?_
    refine TQ.then_ ?_
    refine TC.seq ?_
    refine TC.region ?_
    refine TL.cons (TO.val rfl rfl rfl (Val.move rfl) ?_)
    refine TL.cons (TO.val rfl rfl rfl (Val.loadB 0 agg3 rfl rfl rfl) ?_)
    refine TL.cons (TO.val rfl rfl rfl (Val.cmp rfl rfl run_sub) ?_)
    obtain ⟨y460, hy461, h⟩ := bind_no h
    refine TL.cons (TL.callV (Lin := []) (args := [.int .i64 a0.f3, .int .i64 0, .int .i64 (IntKind.i64.wrap (a1 - 1))]) rfl rfl rfl hbd45 rfl rfl (code_within.calls (a0 := a0.f3) (a1 := 0) (a2 := IntKind.i64.wrap (a1 - 1)) hy461) rfl ?_)
    rintro _ _ _ _ ⟨rfl, rfl, rfl⟩
    refine TL.cons (TO.val rfl rfl rfl (Val.assign rfl) ?_)
    refine TL.nil ?_
    refine TQ.then_ ?_
    refine TC.ret ?_
    refine TQ.fin (v := .bool y460) (.inl rfl) rfl Try.results69 (.tmp rfl .nil) rfl (After.mk hf457 rfl ?_)
    refine TL.cons (TO.val rfl rfl rfl (Val.pickY rfl hk455 rfl) ?_)
    refine TL.cons (TO.val rfl rfl rfl (Val.move rfl) ?_)
    refine TK.split (p := y460 = true) h (fun hg462 h => ?_) (fun hg462 h => ?_)
    ·
     have hk463 : y460 = true := hg462
     refine TL.cons (TO.val (Wt.yes rfl rfl rfl hk463) rfl rfl (Val.fieldAddrB Try.underlying25 rfl fsz3 rfl rfl rfl) ?_)
     refine TL.cons (TO.val (Wt.yes rfl rfl rfl hk463) rfl rfl (Val.loadB 1 agg3 rfl rfl rfl) ?_)
     obtain ⟨y464, hy465, h⟩ := bind_no h
     refine TL.cons (TL.callV (Lin := []) (args := [.int .i64 a0.f1]) (Wt.yes rfl rfl rfl hk463) rfl rfl hbd70 rfl rfl (code_reg.calls (a0 := a0.f1) hy465) rfl ?_)
     rintro _ _ _ _ ⟨rfl, rfl, rfl⟩
     refine TL.cons (TO.val rfl rfl rfl (Val.pickY rfl hk463 rfl) ?_)
     refine TL.cons (TO.val rfl rfl rfl (Val.assign rfl) ?_)
     refine TL.nil ?_
     refine TQ.then_ ?_
     refine TC.ret ?_
     refine TQ.inBR ?_
     refine TQ.thenR ?_
     obtain rfl := Option.some.inj h
     exact TQ.fin (.inl rfl) rfl Try.results48 (.tmp rfl .nil) rfl (FRel.mk (Ls := []) [] 2 (Gd.le.refl _) rfl rfl rfl ⟨rfl, rfl, rfl⟩)
    ·
     have hk466 : y460 = false := (by simpa using hg462)
     refine TL.cons (TL.not (Wt.no rfl rfl rfl hk466) rfl ?_)
     refine TL.cons (TL.not (Wt.no rfl rfl rfl hk466) rfl ?_)
     refine TL.cons (TL.not (Wt.no rfl rfl rfl hk466) rfl ?_)
     refine TL.cons (TO.val rfl rfl rfl (Val.pickN rfl hk466 rfl) ?_)
     refine TL.cons (TO.val rfl rfl rfl (Val.assign rfl) ?_)
     refine TL.nil ?_
     refine TQ.then_ ?_
     refine TC.ret ?_
     refine TQ.inBR ?_
     refine TQ.thenR ?_
     obtain rfl := Option.some.inj h
     exact TQ.fin (.inl rfl) rfl Try.results48 (.tmp rfl .nil) rfl (FRel.mk (Ls := []) [] 2 (Gd.le.refl _) rfl rfl rfl ⟨rfl, rfl, rfl⟩)
   ·
    have hk467 : y452 = false := (by simpa using hg454)
    refine TL.cons (TL.not (Wt.no rfl rfl rfl hk467) rfl ?_)
    refine TL.cons (TL.not (Wt.no rfl rfl rfl hk467) rfl ?_)
    refine TL.cons (TL.not (Wt.no rfl rfl rfl hk467) rfl ?_)
    refine TL.cons (TL.not (Wt.no rfl rfl rfl hk467) rfl ?_)
    refine TL.cons (TO.val rfl rfl rfl (Val.pickN rfl hk467 rfl) ?_)
    refine TL.cons (TO.val rfl rfl rfl (Val.move rfl) ?_)
    refine TL.cons (TL.not (Wt.no rfl rfl rfl rfl) rfl ?_)
    refine TL.cons (TL.not (Wt.no rfl rfl rfl rfl) rfl ?_)
    refine TL.cons (TL.not (Wt.no rfl rfl rfl rfl) rfl ?_)
    refine TL.cons (TO.val rfl rfl rfl (Val.pickN rfl rfl rfl) ?_)
    refine TL.cons (TO.val rfl rfl rfl (Val.assign rfl) ?_)
    refine TL.nil ?_
    refine TQ.then_ ?_
    refine TC.ret ?_
    refine TQ.inBR ?_
    refine TQ.thenR ?_
    obtain rfl := Option.some.inj h
    exact TQ.fin (.inl rfl) rfl Try.results48 (.tmp rfl .nil) rfl (FRel.mk (Ls := []) [] 2 (Gd.le.refl _) rfl rfl rfl ⟨rfl, rfl, rfl⟩)
  ·
   refine TC.seq ?_
   refine TC.region ?_
   refine TL.cons (TO.val rfl rfl rfl (Val.cmp rfl rfl run_eql) ?_)
   refine TL.cons (TO.val rfl rfl rfl (Val.assign rfl) ?_)
   refine TL.nil ?_
   refine TQ.then_ ?_
   refine TC.cond_p rfl h (fun hc490 h => ?_) (fun hc490 h => ?_)
   ·
    refine TC.seq ?_
    refine TC.region ?_
    refine TL.cons (TO.val rfl rfl rfl (Val.fieldAddrB Try.underlying25 rfl fsz3 rfl rfl rfl) ?_)
    refine TL.cons (TO.val rfl rfl rfl (Val.loadB 1 agg3 rfl rfl rfl) ?_)
    obtain ⟨y496, hy497, h⟩ := bind_no h
    refine TL.cons (TL.callV (Lin := []) (args := [.int .i64 a0.f1]) rfl rfl rfl hbd70 rfl rfl (code_reg.calls (a0 := a0.f1) hy497) rfl ?_)
    rintro _ _ _ _ ⟨rfl, rfl, rfl⟩
    refine TL.cons (TO.val rfl rfl rfl (Val.move rfl) ?_)
    refine TK.split (p := y496 = true) h (fun hg498 h => ?_) (fun hg498 h => ?_)
    ·
     have hk499 : y496 = true := hg498
     refine TL.cons (TO.val (Wt.yes rfl rfl rfl hk499) rfl rfl (Val.loadsB 1 (cs := [.int .i64 a0.f0, .int .i64 a0.f1, .int .i64 a0.f2, .int .i64 a0.f3]) agg25 fsz25 rfl rfl rfl rfl) ?_)
     refine TL.cons (TO.val (Wt.yes rfl rfl rfl hk499) rfl rfl (Val.fieldAddrB Try.underlying25 rfl fsz3 rfl rfl rfl) ?_)
     refine TL.cons (TO.val (Wt.yes rfl rfl rfl hk499) rfl rfl (Val.loadB 1 agg3 rfl rfl rfl) ?_)
     refine TL.cons (TO.val (Wt.yes rfl rfl rfl hk499) rfl rfl (Val.fieldAddrB Try.underlying25 rfl fsz3 rfl rfl rfl) ?_)
     refine TL.cons (TO.val (Wt.yes rfl rfl rfl hk499) rfl rfl (Val.loadB 1 agg3 rfl rfl rfl) ?_)
     refine TL.cons (TO.val (Wt.yes rfl rfl rfl hk499) rfl rfl (Val.build (cs := [.int .i64 a0.f0, .int .i64 a0.f1, .int .i64 0, .int .i64 0]) (is := [0, 1]) (xs := [.tmp 49, .tmp 51]) Try.underlying25 zr25 bld25 rfl rfl rfl rfl) ?_)
     refine TL.cons (TO.val (Wt.yes rfl rfl rfl hk499) rfl rfl (Val.eqA eqg25 rfl rfl (fun W => eqs25 9998 W _ _ _ _ _ _ _ _)) ?_)
     refine TL.cons (TO.val rfl rfl rfl (Val.pickY rfl hk499 rfl) ?_)
     refine TL.cons (TO.val rfl rfl rfl (Val.assign rfl) ?_)
     refine TL.nil ?_
     refine TQ.then_ ?_
     refine TC.ret ?_
     refine TQ.inBR ?_
     refine TQ.thenR ?_
     obtain rfl := Option.some.inj h
     exact TQ.fin (.inl rfl) rfl Try.results48 (.tmp rfl .nil) rfl (FRel.mk (Ls := []) [] 2 (Gd.le.refl _) rfl rfl rfl ⟨rfl, rfl, rfl⟩)
    ·
     have hk500 : y496 = false := (by simpa using hg498)
     refine TL.cons (TL.not (Wt.no rfl rfl rfl hk500) rfl ?_)
     refine TL.cons (TL.not (Wt.no rfl rfl rfl hk500) rfl ?_)
     refine TL.cons (TL.not (Wt.no rfl rfl rfl hk500) rfl ?_)
     refine TL.cons (TL.not (Wt.no rfl rfl rfl hk500) rfl ?_)
     refine TL.cons (TL.not (Wt.no rfl rfl rfl hk500) rfl ?_)
     refine TL.cons (TL.not (Wt.no rfl rfl rfl hk500) rfl ?_)
     refine TL.cons (TL.not (Wt.no rfl rfl rfl hk500) rfl ?_)
     refine TL.cons (TO.val rfl rfl rfl (Val.pickN rfl hk500 rfl) ?_)
     refine TL.cons (TO.val rfl rfl rfl (Val.assign rfl) ?_)
     refine TL.nil ?_
     refine TQ.then_ ?_
     refine TC.ret ?_
     refine TQ.inBR ?_
     refine TQ.thenR ?_
     obtain rfl := Option.some.inj h
     exact TQ.fin (.inl rfl) rfl Try.results48 (.tmp rfl .nil) rfl (FRel.mk (Ls := []) [] 2 (Gd.le.refl _) rfl rfl rfl ⟨rfl, rfl, rfl⟩)
   ·
    refine TC.seq ?_
    refine TC.region ?_
    refine TL.cons (TO.val rfl rfl rfl (Val.cmp rfl rfl run_eql) ?_)
    refine TL.cons (TO.val rfl rfl rfl (Val.assign rfl) ?_)
    refine TL.nil ?_
    refine TQ.then_ ?_
    refine TC.cond_p rfl h (fun hc512 h => ?_) (fun hc512 h => ?_)
    ·
     refine TC.seq ?_
     refine TC.region ?_
     refine TL.cons (TO.val rfl rfl rfl (Val.fieldAddrB Try.underlying25 rfl fsz3 rfl rfl rfl) ?_)
     refine TL.cons (TO.val rfl rfl rfl (Val.loadB 1 agg3 rfl rfl rfl) ?_)
     obtain ⟨y518, hy519, h⟩ := bind_no h
     refine TL.cons (TL.callV (Lin := []) (args := [.int .i64 a0.f2, .int .i64 1, .int .i64 15]) rfl rfl rfl hbd45 rfl rfl (code_within.calls (a0 := a0.f2) (a1 := 1) (a2 := 15) hy519) rfl ?_)
     rintro _ _ _ _ ⟨rfl, rfl, rfl⟩
     refine TL.cons (TO.val rfl rfl rfl (Val.move rfl) ?_)
     refine TK.split (p := y518 = true) h (fun hg520 h => ?_) (fun hg520 h => ?_)
     ·
      have hk521 : y518 = true := hg520
      refine TL.cons (TO.val (Wt.yes rfl rfl rfl hk521) rfl rfl (Val.loadsB 1 (cs := [.int .i64 a0.f0, .int .i64 a0.f1, .int .i64 a0.f2, .int .i64 a0.f3]) agg25 fsz25 rfl rfl rfl rfl) ?_)
      refine TL.cons (TO.val (Wt.yes rfl rfl rfl hk521) rfl rfl (Val.fieldAddrB Try.underlying25 rfl fsz3 rfl rfl rfl) ?_)
      refine TL.cons (TO.val (Wt.yes rfl rfl rfl hk521) rfl rfl (Val.loadB 1 agg3 rfl rfl rfl) ?_)
      refine TL.cons (TO.val (Wt.yes rfl rfl rfl hk521) rfl rfl (Val.fieldAddrB Try.underlying25 rfl fsz3 rfl rfl rfl) ?_)
      refine TL.cons (TO.val (Wt.yes rfl rfl rfl hk521) rfl rfl (Val.loadB 1 agg3 rfl rfl rfl) ?_)
      refine TL.cons (TO.val (Wt.yes rfl rfl rfl hk521) rfl rfl (Val.build (cs := [.int .i64 a0.f0, .int .i64 0, .int .i64 a0.f2, .int .i64 0]) (is := [0, 2]) (xs := [.tmp 63, .tmp 65]) Try.underlying25 zr25 bld25 rfl rfl rfl rfl) ?_)
      refine TL.cons (TO.val (Wt.yes rfl rfl rfl hk521) rfl rfl (Val.eqA eqg25 rfl rfl (fun W => eqs25 9998 W _ _ _ _ _ _ _ _)) ?_)
      refine TL.cons (TO.val rfl rfl rfl (Val.pickY rfl hk521 rfl) ?_)
      refine TL.cons (TO.val rfl rfl rfl (Val.assign rfl) ?_)
      refine TL.nil ?_
      refine TQ.then_ ?_
      refine TC.ret ?_
      refine TQ.inBR ?_
      refine TQ.thenR ?_
      obtain rfl := Option.some.inj h
      exact TQ.fin (.inl rfl) rfl Try.results48 (.tmp rfl .nil) rfl (FRel.mk (Ls := []) [] 2 (Gd.le.refl _) rfl rfl rfl ⟨rfl, rfl, rfl⟩)
     ·
      have hk522 : y518 = false := (by simpa using hg520)
      refine TL.cons (TL.not (Wt.no rfl rfl rfl hk522) rfl ?_)
      refine TL.cons (TL.not (Wt.no rfl rfl rfl hk522) rfl ?_)
      refine TL.cons (TL.not (Wt.no rfl rfl rfl hk522) rfl ?_)
      refine TL.cons (TL.not (Wt.no rfl rfl rfl hk522) rfl ?_)
      refine TL.cons (TL.not (Wt.no rfl rfl rfl hk522) rfl ?_)
      refine TL.cons (TL.not (Wt.no rfl rfl rfl hk522) rfl ?_)
      refine TL.cons (TL.not (Wt.no rfl rfl rfl hk522) rfl ?_)
      refine TL.cons (TO.val rfl rfl rfl (Val.pickN rfl hk522 rfl) ?_)
      refine TL.cons (TO.val rfl rfl rfl (Val.assign rfl) ?_)
      refine TL.nil ?_
      refine TQ.then_ ?_
      refine TC.ret ?_
      refine TQ.inBR ?_
      refine TQ.thenR ?_
      obtain rfl := Option.some.inj h
      exact TQ.fin (.inl rfl) rfl Try.results48 (.tmp rfl .nil) rfl (FRel.mk (Ls := []) [] 2 (Gd.le.refl _) rfl rfl rfl ⟨rfl, rfl, rfl⟩)
    ·
     refine TC.skip ?_
     refine TQ.inB ?_
     refine TQ.then_ ?_
     refine TC.seq ?_
     refine TC.region ?_
     refine TL.cons (TO.val rfl rfl rfl (Val.assign rfl) ?_)
     refine TL.nil ?_
     refine TQ.then_ ?_
     refine TC.ret ?_
     obtain rfl := Option.some.inj h
     exact TQ.fin (.inl rfl) rfl Try.results48 (.tmp rfl .nil) rfl (FRel.mk (Ls := []) [] 2 (Gd.le.refl _) rfl rfl rfl ⟨rfl, rfl, rfl⟩)
end Go.Proofs.Ytmacdhkfgoahcaa.Sy
set_option linter.unusedVariables false
set_option linter.unusedSimpArgs false
set_option maxRecDepth 100000
set_option maxHeartbeats 4000000
namespace Go.Proofs.Ytmacdhkfgoahcaa.Sy
open Go Go.RowKit Go.Proofs.YtmacdhkfgoahcaaW.PrintWords 
def code_shapeOf.f (a0 : Int) : Option (S89 × Bool) := jn (γ := (S89 × Bool)) (fun (x46 : Bool) => (if x46 = true then some ((⟨true, false, false, true⟩ : S89), true) else (if a0 = 2 then some ((⟨true, true, true, true⟩ : S89), true) else (if a0 = 3 then some ((⟨true, true, false, false⟩ : S89), true) else (if a0 = 4 then some ((⟨true, true, false, true⟩ : S89), true) else (if a0 = 5 then some ((⟨false, true, true, true⟩ : S89), true) else (if a0 = 8 then some ((⟨true, false, false, false⟩ : S89), true) else (if a0 = 9 then some ((⟨false, true, false, false⟩ : S89), true) else some ((⟨false, false, false, false⟩ : S89), false))))))))) (fun (j47 : (Bool → Option (S89 × Bool))) => (if a0 = 1 then j47 (decide (a0 = 1)) else (if a0 = 6 then j47 (decide (a0 = 6)) else j47 (decide (a0 = 7)))))
def code_shapeOf.post (G : Gd)  (r : (S89 × Bool)) (v : Value) (G' : Gd) (Lr : List Ch) : Prop := G = G' ∧ v = .tuple #[.agg #[.bool r.1.f0, .bool r.1.f1, .bool r.1.f2, .bool r.1.f3], .bool r.2] ∧ Lr = []
theorem code_shapeOf.calls {G : Gd} {r : (S89 × Bool)} {a0 : Int} (h : code_shapeOf.f a0 = some r) : Fn Try.prog 61 G [] [.int .i64 a0] (code_shapeOf.post G  r) := by
 refine Fn.intro (e := [(0, .int .i64 a0)]) 29 Try.func61 rfl Try.ntmps61 rfl rfl (Nat.le_of_ble_eq_true rfl) (fun L => ?_)
 unfold code_shapeOf.f at h
 refine TC.seq ?_
 refine TC.region ?_
 refine TL.cons (TL.alloc (cs := [.bool false, .bool false, .bool false, .bool false]) rfl rfl zr89 rfl (fun b1 => ?_))
 refine TL.cons (TO.val rfl rfl rfl (Val.assign rfl) ?_)
 refine TL.nil ?_
 refine TQ.then_ ?_
 refine TC.seq ?_
 refine TC.seq ?_
 refine TC.region ?_
 refine TL.cons (TO.val rfl rfl rfl (Val.move rfl) ?_)
 refine TL.nil ?_
 refine TQ.then_ ?_
 refine TC.block ?_
 refine TC.seq ?_
 refine TC.seq ?_
 refine TC.region ?_
 refine TL.cons (TO.val rfl rfl rfl (Val.cmp rfl rfl run_eql) ?_)
 refine TL.cons (TO.val rfl rfl rfl (Val.assign rfl) ?_)
 refine TL.nil ?_
 refine TQ.then_ ?_
 obtain ⟨j47, hj47, h⟩ := jn_no h
 refine TC.tail (fun a W => ∃ (x46 : Bool), j47 x46 = some r ∧ Fr 29 a [(2, .pointer (some ⟨b1, 0, none⟩)), (4, .int .i64 a0), (5, .bool x46)] ∧ Own G (Blk b1 [.bool false, .bool false, .bool false, .bool false] 89 :: L) W) ?_ ?_
 ·
  rintro a W ⟨x46, h, hF, hO⟩
  rw [hj47] at h
  refine TQ.use ?_ hF hO
  clear hF hO
  refine TQ.then_ ?_
  refine TC.cond_b rfl h (fun hc55 h => ?_) (fun hc55 h => ?_)
  ·
   refine TC.seq ?_
   refine TC.region ?_
   refine TL.cons (TO.val rfl rfl rfl (Val.build (cs := [.bool true, .bool false, .bool false, .bool true]) (is := [0, 3]) (xs := [.const (.bool true), .const (.bool true)]) Try.underlying89 zr89 bld89 rfl rfl rfl rfl) ?_)
   refine TL.cons (TL.store 0 (ds := [.bool true, .bool false, .bool false, .bool true]) (cs' := [.bool true, .bool false, .bool false, .bool true]) (L' := (Blk b1 [.bool true, .bool false, .bool false, .bool true] 89 :: L)) rfl fsz89 rfl rfl rfl rfl rfl (Nat.le_of_ble_eq_true rfl) rfl rfl ?_)
   refine TL.cons (TO.val rfl rfl rfl (Val.assign rfl) ?_)
   refine TL.nil ?_
   refine TQ.then_ ?_
   refine TC.ret ?_
   refine TQ.inBR ?_
   refine TQ.thenR ?_
   obtain rfl := Option.some.inj h
   exact TQ.fin (.inl rfl) rfl Try.results61 (.cells 0 rfl rfl agg89 fsz89 (.tmp rfl .nil)) rfl (FRel.mk (Ls := []) [] 1 (Gd.le.refl _) rfl rfl rfl ⟨rfl, rfl, rfl⟩)
  ·
   refine TC.seq ?_
   refine TC.region ?_
   refine TL.cons (TO.val rfl rfl rfl (Val.cmp rfl rfl run_eql) ?_)
   refine TL.cons (TO.val rfl rfl rfl (Val.assign rfl) ?_)
   refine TL.nil ?_
   refine TQ.then_ ?_
   refine TC.cond_p rfl h (fun hc62 h => ?_) (fun hc62 h => ?_)
   ·
    refine TC.seq ?_
    refine TC.region ?_
    refine TL.cons (TO.val rfl rfl rfl (Val.build (cs := [.bool true, .bool true, .bool true, .bool true]) (is := [0, 1, 2, 3]) (xs := [.const (.bool true), .const (.bool true), .const (.bool true), .const (.bool true)]) Try.underlying89 zr89 bld89 rfl rfl rfl rfl) ?_)
    refine TL.cons (TL.store 0 (ds := [.bool true, .bool true, .bool true, .bool true]) (cs' := [.bool true, .bool true, .bool true, .bool true]) (L' := (Blk b1 [.bool true, .bool true, .bool true, .bool true] 89 :: L)) rfl fsz89 rfl rfl rfl rfl rfl (Nat.le_of_ble_eq_true rfl) rfl rfl ?_)
    refine TL.cons (TO.val rfl rfl rfl (Val.assign rfl) ?_)
    refine TL.nil ?_
    refine TQ.then_ ?_
    refine TC.ret ?_
    refine TQ.inBR ?_
    refine TQ.thenR ?_
    obtain rfl := Option.some.inj h
    exact TQ.fin (.inl rfl) rfl Try.results61 (.cells 0 rfl rfl agg89 fsz89 (.tmp rfl .nil)) rfl (FRel.mk (Ls := []) [] 1 (Gd.le.refl _) rfl rfl rfl ⟨rfl, rfl, rfl⟩)
   ·
    refine TC.seq ?_
    refine TC.region ?_
    refine TL.cons (TO.val rfl rfl rfl (Val.cmp rfl rfl run_eql) ?_)
    refine TL.cons (TO.val rfl rfl rfl (Val.assign rfl) ?_)
    refine TL.nil ?_
    refine TQ.then_ ?_
    refine TC.cond_p rfl h (fun hc68 h => ?_) (fun hc68 h => ?_)
    ·
     refine TC.seq ?_
     refine TC.region ?_
     refine TL.cons (TO.val rfl rfl rfl (Val.build (cs := [.bool true, .bool true, .bool false, .bool false]) (is := [0, 1]) (xs := [.const (.bool true), .const (.bool true)]) Try.underlying89 zr89 bld89 rfl rfl rfl rfl) ?_)
     refine TL.cons (TL.store 0 (ds := [.bool true, .bool true, .bool false, .bool false]) (cs' := [.bool true, .bool true, .bool false, .bool false]) (L' := (Blk b1 [.bool true, .bool true, .bool false, .bool false] 89 :: L)) rfl fsz89 rfl rfl rfl rfl rfl (Nat.le_of_ble_eq_true rfl) rfl rfl ?_)
     refine TL.cons (TO.val rfl rfl rfl (Val.assign rfl) ?_)
     refine TL.nil ?_
     refine TQ.then_ ?_
     refine TC.ret ?_
     refine TQ.inBR ?_
     refine TQ.thenR ?_
     obtain rfl := Option.some.inj h
     exact TQ.fin (.inl rfl) rfl Try.results61 (.cells 0 rfl rfl agg89 fsz89 (.tmp rfl .nil)) rfl (FRel.mk (Ls := []) [] 1 (Gd.le.refl _) rfl rfl rfl ⟨rfl, rfl, rfl⟩)
    ·
     refine TC.seq ?_
     refine TC.region ?_
     refine TL.cons (TO.val rfl rfl rfl (Val.cmp rfl rfl run_eql) ?_)
     refine TL.cons (TO.val rfl rfl rfl (Val.assign rfl) ?_)
     refine TL.nil ?_
     refine TQ.then_ ?_
     refine TC.cond_p rfl h (fun hc73 h => ?_) (fun hc73 h => ?_)
     ·
      refine TC.seq ?_
      refine TC.region ?_
      refine TL.cons (TO.val rfl rfl rfl (Val.build (cs := [.bool true, .bool true, .bool false, .bool true]) (is := [0, 1, 3]) (xs := [.const (.bool true), .const (.bool true), .const (.bool true)]) Try.underlying89 zr89 bld89 rfl rfl rfl rfl) ?_)
      refine TL.cons (TL.store 0 (ds := [.bool true, .bool true, .bool false, .bool true]) (cs' := [.bool true, .bool true, .bool false, .bool true]) (L' := (Blk b1 [.bool true, .bool true, .bool false, .bool true] 89 :: L)) rfl fsz89 rfl rfl rfl rfl rfl (Nat.le_of_ble_eq_true rfl) rfl rfl ?_)
      refine TL.cons (TO.val rfl rfl rfl (Val.assign rfl) ?_)
      refine TL.nil ?_
      refine TQ.then_ ?_
      refine TC.ret ?_
      refine TQ.inBR ?_
      refine TQ.thenR ?_
      obtain rfl := Option.some.inj h
      exact TQ.fin (.inl rfl) rfl Try.results61 (.cells 0 rfl rfl agg89 fsz89 (.tmp rfl .nil)) rfl (FRel.mk (Ls := []) [] 1 (Gd.le.refl _) rfl rfl rfl ⟨rfl, rfl, rfl⟩)
     ·
      refine TC.seq ?_
      refine TC.region ?_
      refine TL.cons (TO.val rfl rfl rfl (Val.cmp rfl rfl run_eql) ?_)
      refine TL.cons (TO.val rfl rfl rfl (Val.assign rfl) ?_)
      refine TL.nil ?_
      refine TQ.then_ ?_
      refine TC.cond_p rfl h (fun hc77 h => ?_) (fun hc77 h => ?_)
      ·
       refine TC.seq ?_
       refine TC.region ?_
       refine TL.cons (TO.val rfl rfl rfl (Val.build (cs := [.bool false, .bool true, .bool true, .bool true]) (is := [1, 2, 3]) (xs := [.const (.bool true), .const (.bool true), .const (.bool true)]) Try.underlying89 zr89 bld89 rfl rfl rfl rfl) ?_)
       refine TL.cons (TL.store 0 (ds := [.bool false, .bool true, .bool true, .bool true]) (cs' := [.bool false, .bool true, .bool true, .bool true]) (L' := (Blk b1 [.bool false, .bool true, .bool true, .bool true] 89 :: L)) rfl fsz89 rfl rfl rfl rfl rfl (Nat.le_of_ble_eq_true rfl) rfl rfl ?_)
       refine TL.cons (TO.val rfl rfl rfl (Val.assign rfl) ?_)
       refine TL.nil ?_
       refine TQ.then_ ?_
       refine TC.ret ?_
       refine TQ.inBR ?_
       refine TQ.thenR ?_
       obtain rfl := Option.some.inj h
       exact TQ.fin (.inl rfl) rfl Try.results61 (.cells 0 rfl rfl agg89 fsz89 (.tmp rfl .nil)) rfl (FRel.mk (Ls := []) [] 1 (Gd.le.refl _) rfl rfl rfl ⟨rfl, rfl, rfl⟩)
      ·
       refine TC.seq ?_
       refine TC.region ?_
       refine TL.cons (TO.val rfl rfl rfl (Val.cmp rfl rfl run_eql) ?_)
       refine TL.cons (TO.val rfl rfl rfl (Val.assign rfl) ?_)
       refine TL.nil ?_
       refine TQ.then_ ?_
       refine TC.cond_p rfl h (fun hc80 h => ?_) (fun hc80 h => ?_)
       ·
        refine TC.seq ?_
        refine TC.region ?_
        refine TL.cons (TO.val rfl rfl rfl (Val.build (cs := [.bool true, .bool false, .bool false, .bool false]) (is := [0]) (xs := [.const (.bool true)]) Try.underlying89 zr89 bld89 rfl rfl rfl rfl) ?_)
        refine TL.cons (TL.store 0 (ds := [.bool true, .bool false, .bool false, .bool false]) (cs' := [.bool true, .bool false, .bool false, .bool false]) (L' := (Blk b1 [.bool true, .bool false, .bool false, .bool false] 89 :: L)) rfl fsz89 rfl rfl rfl rfl rfl (Nat.le_of_ble_eq_true rfl) rfl rfl ?_)
        refine TL.cons (TO.val rfl rfl rfl (Val.assign rfl) ?_)
        refine TL.nil ?_
        refine TQ.then_ ?_
        refine TC.ret ?_
        refine TQ.inBR ?_
        refine TQ.thenR ?_
        obtain rfl := Option.some.inj h
        exact TQ.fin (.inl rfl) rfl Try.results61 (.cells 0 rfl rfl agg89 fsz89 (.tmp rfl .nil)) rfl (FRel.mk (Ls := []) [] 1 (Gd.le.refl _) rfl rfl rfl ⟨rfl, rfl, rfl⟩)
       ·
        refine TC.seq ?_
        refine TC.region ?_
        refine TL.cons (TO.val rfl rfl rfl (Val.cmp rfl rfl run_eql) ?_)
        refine TL.cons (TO.val rfl rfl rfl (Val.assign rfl) ?_)
        refine TL.nil ?_
        refine TQ.then_ ?_
        refine TC.cond_p rfl h (fun hc82 h => ?_) (fun hc82 h => ?_)
        ·
         refine TC.seq ?_
         refine TC.region ?_
         refine TL.cons (TO.val rfl rfl rfl (Val.build (cs := [.bool false, .bool true, .bool false, .bool false]) (is := [1]) (xs := [.const (.bool true)]) Try.underlying89 zr89 bld89 rfl rfl rfl rfl) ?_)
         refine TL.cons (TL.store 0 (ds := [.bool false, .bool true, .bool false, .bool false]) (cs' := [.bool false, .bool true, .bool false, .bool false]) (L' := (Blk b1 [.bool false, .bool true, .bool false, .bool false] 89 :: L)) rfl fsz89 rfl rfl rfl rfl rfl (Nat.le_of_ble_eq_true rfl) rfl rfl ?_)
         refine TL.cons (TO.val rfl rfl rfl (Val.assign rfl) ?_)
         refine TL.nil ?_
         refine TQ.then_ ?_
         refine TC.ret ?_
         refine TQ.inBR ?_
         refine TQ.thenR ?_
         obtain rfl := Option.some.inj h
         exact TQ.fin (.inl rfl) rfl Try.results61 (.cells 0 rfl rfl agg89 fsz89 (.tmp rfl .nil)) rfl (FRel.mk (Ls := []) [] 1 (Gd.le.refl _) rfl rfl rfl ⟨rfl, rfl, rfl⟩)
        ·
         refine TC.skip ?_
         refine TQ.inB ?_
         refine TQ.then_ ?_
         refine TC.seq ?_
         refine TC.region ?_
         refine TL.cons (TO.val rfl rfl rfl (Val.build (cs := [.bool false, .bool false, .bool false, .bool false]) (is := []) (xs := []) Try.underlying89 zr89 bld89 rfl rfl rfl rfl) ?_)
         refine TL.cons (TL.store 0 (ds := [.bool false, .bool false, .bool false, .bool false]) (cs' := [.bool false, .bool false, .bool false, .bool false]) (L' := (Blk b1 [.bool false, .bool false, .bool false, .bool false] 89 :: L)) rfl fsz89 rfl rfl rfl rfl rfl (Nat.le_of_ble_eq_true rfl) rfl rfl ?_)
         refine TL.cons (TO.val rfl rfl rfl (Val.assign rfl) ?_)
         refine TL.nil ?_
         refine TQ.then_ ?_
         refine TC.ret ?_
         obtain rfl := Option.some.inj h
         exact TQ.fin (.inl rfl) rfl Try.results61 (.cells 0 rfl rfl agg89 fsz89 (.tmp rfl .nil)) rfl (FRel.mk (Ls := []) [] 1 (Gd.le.refl _) rfl rfl rfl ⟨rfl, rfl, rfl⟩)
 ·
  refine TC.cond_p rfl h (fun hc83 h => ?_) (fun hc83 h => ?_)
  ·
   refine TC.skip ?_
   exact fun a W hF hO => ⟨decide (a0 = 1), h, hF.sub ⟨rfl, rfl, rfl, trivial⟩, hO.selT (Ls := [Blk b1 [.bool false, .bool false, .bool false, .bool false] 89]) [0] 1 rfl rfl rfl⟩
  ·
   refine TC.seq ?_
   refine TC.region ?_
   refine TL.cons (TO.val rfl rfl rfl (Val.cmp rfl rfl run_eql) ?_)
   refine TL.cons (TO.val rfl rfl rfl (Val.assign rfl) ?_)
   refine TL.nil ?_
   refine TQ.then_ ?_
   refine TC.cond_p rfl h (fun hc85 h => ?_) (fun hc85 h => ?_)
   ·
    refine TC.skip ?_
    exact fun a W hF hO => ⟨decide (a0 = 6), h, hF.sub ⟨rfl, rfl, rfl, trivial⟩, hO.selT (Ls := [Blk b1 [.bool false, .bool false, .bool false, .bool false] 89]) [0] 1 rfl rfl rfl⟩
   ·
    refine TC.region ?_
    refine TL.cons (TO.val rfl rfl rfl (Val.cmp rfl rfl run_eql) ?_)
    refine TL.cons (TO.val rfl rfl rfl (Val.assign rfl) ?_)
    refine TL.nil ?_
    exact fun a W hF hO => ⟨decide (a0 = 7), h, hF.sub ⟨rfl, rfl, rfl, trivial⟩, hO.selT (Ls := [Blk b1 [.bool false, .bool false, .bool false, .bool false] 89]) [0] 1 rfl rfl rfl⟩
end Go.Proofs.Ytmacdhkfgoahcaa.Sy
set_option linter.unusedVariables false
set_option linter.unusedSimpArgs false
set_option maxRecDepth 100000
set_option maxHeartbeats 4000000
namespace Go.Proofs.Ytmacdhkfgoahcaa.Sy
open Go Go.RowKit Go.Proofs.YtmacdhkfgoahcaaW.PrintWords 
def code_field.f (a0 : Int) (a1 : Bool) : Option Bool := (if a0 = 0 then (if (!a1) = true then some true else (if a1 = true then (code_reg.f a0).bind fun (y24 : Bool) => some y24 else some false)) else (if a1 = true then (code_reg.f a0).bind fun (y30 : Bool) => some y30 else some false))
def code_field.post (G : Gd)  (r : Bool) (v : Value) (G' : Gd) (Lr : List Ch) : Prop := G = G' ∧ v = .bool r ∧ Lr = []
theorem code_field.calls {G : Gd} {r : Bool} {a0 : Int} {a1 : Bool} (h : code_field.f a0 a1 = some r) : Fn Try.prog 72 G [] [.int .i64 a0, .bool a1] (code_field.post G  r) := by
 refine Fn.intro (e := [(0, .int .i64 a0), (1, .bool a1)]) 18 Try.func72 rfl Try.ntmps72 rfl rfl (Nat.le_of_ble_eq_true rfl) (fun L => ?_)
 unfold code_field.f at h
 refine TC.seq ?_
 refine TC.region ?_
 refine TL.cons (TO.val rfl rfl rfl (Val.assign rfl) ?_)
 refine TL.nil ?_
 refine TQ.then_ ?_
 refine TC.seq ?_
 refine TC.region ?_
 refine TL.cons (TO.val rfl rfl rfl (Val.move rfl) ?_)
 refine TL.cons (TO.val rfl rfl rfl (Val.cmp rfl rfl run_eql) ?_)
 refine TL.cons (TO.val rfl rfl rfl (Val.move rfl) ?_)
 refine TK.split (p := a0 = 0) h (fun hg17 h => ?_) (fun hg17 h => ?_)
 ·
  have hk18 : decide (a0 = 0) = true := decide_eq_true hg17
  refine TL.cons (TO.val (Wt.yes rfl rfl rfl hk18) rfl rfl (Val.move rfl) ?_)
  refine TL.cons (TO.val (Wt.yes rfl rfl rfl hk18) rfl rfl (Val.not_ rfl) ?_)
  refine TL.cons (TO.val rfl rfl rfl (Val.pickY rfl hk18 rfl) ?_)
  refine TL.cons (TO.val rfl rfl rfl (Val.move rfl) ?_)
  refine TK.split (p := (!a1) = true) h (fun hg19 h => ?_) (fun hg19 h => ?_)
  ·
   have hk20 : (!a1) = true := hg19
   refine TL.cons (TL.not (Wt.no rfl rfl rfl hk20) rfl ?_)
   refine TL.cons (TL.not (Wt.no rfl rfl rfl hk20) rfl ?_)
   refine TL.cons (TL.not rfl rfl ?_)
   refine TL.cons (TL.not rfl rfl ?_)
   refine TL.cons (TL.not (Wt.no rfl rfl rfl hk20) rfl ?_)
   refine TL.cons (TO.val rfl rfl rfl (Val.pickY rfl hk20 rfl) ?_)
   refine TL.cons (TO.val rfl rfl rfl (Val.assign rfl) ?_)
   refine TL.nil ?_
   refine TQ.then_ ?_
   refine TC.ret ?_
   obtain rfl := Option.some.inj h
   exact TQ.fin (.inl rfl) rfl Try.results72 (.tmp rfl .nil) rfl (FRel.mk (Ls := []) [] 0 (Gd.le.refl _) rfl rfl rfl ⟨rfl, rfl, rfl⟩)
  ·
   have hk21 : (!a1) = false := (by simpa using hg19)
   refine TL.cons (TO.val (Wt.yes rfl rfl rfl hk21) rfl rfl (Val.move rfl) ?_)
   refine TL.cons (TO.val (Wt.yes rfl rfl rfl hk21) rfl rfl (Val.move rfl) ?_)
   refine TK.split (p := a1 = true) h (fun hg22 h => ?_) (fun hg22 h => ?_)
   ·
    have hk23 : a1 = true := hg22
    refine TL.cons (TO.val (Wt.yes rfl rfl rfl hk23) rfl rfl (Val.move rfl) ?_)
    obtain ⟨y24, hy25, h⟩ := bind_no h
    refine TL.cons (TL.callV (Lin := []) (args := [.int .i64 a0]) (Wt.yes rfl rfl rfl hk23) rfl rfl hbd70 rfl rfl (code_reg.calls (a0 := a0) hy25) rfl ?_)
    rintro _ _ _ _ ⟨rfl, rfl, rfl⟩
    refine TL.cons (TO.val (Wt.yes rfl rfl rfl hk21) rfl rfl (Val.pickY rfl hk23 rfl) ?_)
    refine TL.cons (TO.val rfl rfl rfl (Val.pickN rfl hk21 rfl) ?_)
    refine TL.cons (TO.val rfl rfl rfl (Val.assign rfl) ?_)
    refine TL.nil ?_
    refine TQ.then_ ?_
    refine TC.ret ?_
    obtain rfl := Option.some.inj h
    exact TQ.fin (.inl rfl) rfl Try.results72 (.tmp rfl .nil) rfl (FRel.mk (Ls := []) [] 0 (Gd.le.refl _) rfl rfl rfl ⟨rfl, rfl, rfl⟩)
   ·
    have hk26 : a1 = false := (by simpa using hg22)
    refine TL.cons (TL.not (Wt.no rfl rfl rfl hk26) rfl ?_)
    refine TL.cons (TL.not (Wt.no rfl rfl rfl hk26) rfl ?_)
    refine TL.cons (TO.val (Wt.yes rfl rfl rfl hk21) rfl rfl (Val.pickN rfl hk26 rfl) ?_)
    refine TL.cons (TO.val rfl rfl rfl (Val.pickN rfl hk21 rfl) ?_)
    refine TL.cons (TO.val rfl rfl rfl (Val.assign rfl) ?_)
    refine TL.nil ?_
    refine TQ.then_ ?_
    refine TC.ret ?_
    obtain rfl := Option.some.inj h
    exact TQ.fin (.inl rfl) rfl Try.results72 (.tmp rfl .nil) rfl (FRel.mk (Ls := []) [] 0 (Gd.le.refl _) rfl rfl rfl ⟨rfl, rfl, rfl⟩)
 ·
  have hk27 : decide (a0 = 0) = false := decide_eq_false hg17
  refine TL.cons (TL.not (Wt.no rfl rfl rfl hk27) rfl ?_)
  refine TL.cons (TL.not (Wt.no rfl rfl rfl hk27) rfl ?_)
  refine TL.cons (TO.val rfl rfl rfl (Val.pickN rfl hk27 rfl) ?_)
  refine TL.cons (TO.val rfl rfl rfl (Val.move rfl) ?_)
  refine TL.cons (TO.val (Wt.yes rfl rfl rfl rfl) rfl rfl (Val.move rfl) ?_)
  refine TL.cons (TO.val (Wt.yes rfl rfl rfl rfl) rfl rfl (Val.move rfl) ?_)
  refine TK.split (p := a1 = true) h (fun hg28 h => ?_) (fun hg28 h => ?_)
  ·
   have hk29 : a1 = true := hg28
   refine TL.cons (TO.val (Wt.yes rfl rfl rfl hk29) rfl rfl (Val.move rfl) ?_)
   obtain ⟨y30, hy31, h⟩ := bind_no h
   refine TL.cons (TL.callV (Lin := []) (args := [.int .i64 a0]) (Wt.yes rfl rfl rfl hk29) rfl rfl hbd70 rfl rfl (code_reg.calls (a0 := a0) hy31) rfl ?_)
   rintro _ _ _ _ ⟨rfl, rfl, rfl⟩
   refine TL.cons (TO.val (Wt.yes rfl rfl rfl rfl) rfl rfl (Val.pickY rfl hk29 rfl) ?_)
   refine TL.cons (TO.val rfl rfl rfl (Val.pickN rfl rfl rfl) ?_)
   refine TL.cons (TO.val rfl rfl rfl (Val.assign rfl) ?_)
   refine TL.nil ?_
   refine TQ.then_ ?_
   refine TC.ret ?_
   obtain rfl := Option.some.inj h
   exact TQ.fin (.inl rfl) rfl Try.results72 (.tmp rfl .nil) rfl (FRel.mk (Ls := []) [] 0 (Gd.le.refl _) rfl rfl rfl ⟨rfl, rfl, rfl⟩)
  ·
   have hk32 : a1 = false := (by simpa using hg28)
   refine TL.cons (TL.not (Wt.no rfl rfl rfl hk32) rfl ?_)
   refine TL.cons (TL.not (Wt.no rfl rfl rfl hk32) rfl ?_)
   refine TL.cons (TO.val (Wt.yes rfl rfl rfl rfl) rfl rfl (Val.pickN rfl hk32 rfl) ?_)
   refine TL.cons (TO.val rfl rfl rfl (Val.pickN rfl rfl rfl) ?_)
   refine TL.cons (TO.val rfl rfl rfl (Val.assign rfl) ?_)
   refine TL.nil ?_
   refine TQ.then_ ?_
   refine TC.ret ?_
   obtain rfl := Option.some.inj h
   exact TQ.fin (.inl rfl) rfl Try.results72 (.tmp rfl .nil) rfl (FRel.mk (Ls := []) [] 0 (Gd.le.refl _) rfl rfl rfl ⟨rfl, rfl, rfl⟩)
end Go.Proofs.Ytmacdhkfgoahcaa.Sy
set_option linter.unusedVariables false
set_option linter.unusedSimpArgs false
set_option maxRecDepth 100000
set_option maxHeartbeats 4000000
namespace Go.Proofs.Ytmacdhkfgoahcaa.Sy
open Go Go.RowKit Go.Proofs.YtmacdhkfgoahcaaW.PrintWords 
def word_Known.f (a0 : Int) : Option Bool := (if 1 ≤ a0 then some (decide (a0 ≤ 14)) else some false)
def word_Known.post (G : Gd)  (r : Bool) (v : Value) (G' : Gd) (Lr : List Ch) : Prop := G = G' ∧ v = .bool r ∧ Lr = []
theorem word_Known.calls {G : Gd} {r : Bool} {a0 : Int} (h : word_Known.f a0 = some r) : Fn Try.prog 27 G [] [.int .i64 a0] (word_Known.post G  r) := by
 refine Fn.intro (e := [(0, .int .i64 a0)]) 9 Try.func27 rfl Try.ntmps27 rfl rfl (Nat.le_of_ble_eq_true rfl) (fun L => ?_)
 unfold word_Known.f at h
 refine TC.seq ?_
 refine TC.region ?_
 refine TL.cons (TO.val rfl rfl rfl (Val.assign rfl) ?_)
 refine TL.nil ?_
 refine TQ.then_ ?_
 refine TC.seq ?_
 refine TC.region ?_
 refine TL.cons (TO.val rfl rfl rfl (Val.move rfl) ?_)
 refine TL.cons (TO.val rfl rfl rfl (Val.cmp rfl rfl run_geq) ?_)
 refine TL.cons (TO.val rfl rfl rfl (Val.move rfl) ?_)
 refine TK.split (p := 1 ≤ a0) h (fun hg4 h => ?_) (fun hg4 h => ?_)
 ·
  have hk5 : decide (1 ≤ a0) = true := decide_eq_true hg4
  refine TL.cons (TO.val (Wt.yes rfl rfl rfl hk5) rfl rfl (Val.move rfl) ?_)
  refine TL.cons (TO.val (Wt.yes rfl rfl rfl hk5) rfl rfl (Val.cmp rfl rfl run_leq) ?_)
  refine TL.cons (TO.val rfl rfl rfl (Val.pickY rfl hk5 rfl) ?_)
  refine TL.cons (TO.val rfl rfl rfl (Val.assign rfl) ?_)
  refine TL.nil ?_
  refine TQ.then_ ?_
  refine TC.ret ?_
  obtain rfl := Option.some.inj h
  exact TQ.fin (.inl rfl) rfl Try.results27 (.tmp rfl .nil) rfl (FRel.mk (Ls := []) [] 0 (Gd.le.refl _) rfl rfl rfl ⟨rfl, rfl, rfl⟩)
 ·
  have hk6 : decide (1 ≤ a0) = false := decide_eq_false hg4
  refine TL.cons (TL.not (Wt.no rfl rfl rfl hk6) rfl ?_)
  refine TL.cons (TL.not (Wt.no rfl rfl rfl hk6) rfl ?_)
  refine TL.cons (TO.val rfl rfl rfl (Val.pickN rfl hk6 rfl) ?_)
  refine TL.cons (TO.val rfl rfl rfl (Val.assign rfl) ?_)
  refine TL.nil ?_
  refine TQ.then_ ?_
  refine TC.ret ?_
  obtain rfl := Option.some.inj h
  exact TQ.fin (.inl rfl) rfl Try.results27 (.tmp rfl .nil) rfl (FRel.mk (Ls := []) [] 0 (Gd.le.refl _) rfl rfl rfl ⟨rfl, rfl, rfl⟩)
end Go.Proofs.Ytmacdhkfgoahcaa.Sy
set_option linter.unusedVariables false
set_option linter.unusedSimpArgs false
set_option maxRecDepth 100000
set_option maxHeartbeats 4000000
namespace Go.Proofs.Ytmacdhkfgoahcaa.Sy
open Go Go.RowKit Go.Proofs.YtmacdhkfgoahcaaW.PrintWords 
def code_immediate.f (a0 : S30) (a1 : S89) (a2 : Int) : Option Bool := (if a0.f0 = 2 then (word_Known.f a0.f4).bind fun (y74 : Bool) => some y74 else jn (γ := Bool) (fun (x77 : Bool) => (if x77 = true then (code_within.f a0.f4 (-2147483648) 2147483647).bind fun (y89 : Bool) => some y89 else (if a0.f0 = 6 then (code_within.f a0.f4 0 1048576).bind fun (y98 : Bool) => some y98 else (if a0.f0 = 7 then (code_within.f a0.f4 0 (IntKind.i64.wrap (a2 - 1))).bind fun (y104 : Bool) => some y104 else (if a1.f3 = true then some true else some (decide (a0.f4 = 0))))))) (fun (j78 : (Bool → Option Bool)) => (if a0.f0 = 4 then j78 (decide (a0.f0 = 4)) else j78 (decide (a0.f0 = 5)))))
def code_immediate.post (G : Gd)  (r : Bool) (v : Value) (G' : Gd) (Lr : List Ch) : Prop := G = G' ∧ v = .bool r ∧ Lr = []
theorem code_immediate.calls {G : Gd} {r : Bool} {a0 : S30} {a1 : S89} {a2 : Int} {A1 : Option Addr} {c2 : Nat} (hr3 : Rd G (Kd.int .i64) A1 a0.f5) (hl4 : a0.f5.length ≤ c2) (h : code_immediate.f a0 a1 a2 = some r) : Fn Try.prog 73 G [] [.agg #[.int .i64 a0.f0, .int .i64 a0.f1, .int .i64 a0.f2, .int .i64 a0.f3, .int .i64 a0.f4, .slice A1 a0.f5.length c2], .agg #[.bool a1.f0, .bool a1.f1, .bool a1.f2, .bool a1.f3], .int .i64 a2] (code_immediate.post G  r) := by
 refine Fn.intro (e := [(0, .agg #[.int .i64 a0.f0, .int .i64 a0.f1, .int .i64 a0.f2, .int .i64 a0.f3, .int .i64 a0.f4, .slice A1 a0.f5.length c2]), (1, .agg #[.bool a1.f0, .bool a1.f1, .bool a1.f2, .bool a1.f3]), (2, .int .i64 a2)]) 39 Try.func73 rfl Try.ntmps73 rfl rfl (Nat.le_of_ble_eq_true rfl) (fun L => ?_)
 unfold code_immediate.f at h
 refine TC.seq ?_
 refine TC.region ?_
 refine TL.cons (TL.box (cs := [.int .i64 a0.f0, .int .i64 a0.f1, .int .i64 a0.f2, .int .i64 a0.f3, .int .i64 a0.f4, .slice A1 a0.f5.length c2]) rfl rfl rfl rfl (fun b5 => ?_))
 refine TL.cons (TL.box (cs := [.bool a1.f0, .bool a1.f1, .bool a1.f2, .bool a1.f3]) rfl rfl rfl rfl (fun b6 => ?_))
 refine TL.cons (TO.val rfl rfl rfl (Val.assign rfl) ?_)
 refine TL.nil ?_
 refine TQ.then_ ?_
 refine TC.seq ?_
 refine TC.seq ?_
 refine TC.region ?_
 refine TL.cons (TO.val rfl rfl rfl (Val.fieldAddrB Try.underlying30 rfl fsz3 rfl rfl rfl) ?_)
 refine TL.cons (TO.val rfl rfl rfl (Val.loadB 1 agg3 rfl rfl rfl) ?_)
 refine TL.nil ?_
 refine TQ.then_ ?_
 refine TC.block ?_
 refine TC.seq ?_
 refine TC.region ?_
 refine TL.cons (TO.val rfl rfl rfl (Val.cmp rfl rfl run_eql) ?_)
 refine TL.cons (TO.val rfl rfl rfl (Val.assign rfl) ?_)
 refine TL.nil ?_
 refine TQ.then_ ?_
 refine TC.cond_p rfl h (fun hc73 h => ?_) (fun hc73 h => ?_)
 ·
  refine TC.seq ?_
  refine TC.region ?_
  refine TL.cons (TO.val rfl rfl rfl (Val.fieldAddrB Try.underlying30 rfl fsz3 rfl rfl rfl) ?_)
  refine TL.cons (TO.val rfl rfl rfl (Val.loadB 1 agg3 rfl rfl rfl) ?_)
  obtain ⟨y74, hy75, h⟩ := bind_no h
  refine TL.cons (TL.callV (Lin := []) (args := [.int .i64 a0.f4]) rfl rfl rfl hbd27 rfl rfl (word_Known.calls (a0 := a0.f4) hy75) rfl ?_)
  rintro _ _ _ _ ⟨rfl, rfl, rfl⟩
  refine TL.cons (TO.val rfl rfl rfl (Val.assign rfl) ?_)
  refine TL.nil ?_
  refine TQ.then_ ?_
  refine TC.ret ?_
  refine TQ.inBR ?_
  refine TQ.thenR ?_
  obtain rfl := Option.some.inj h
  exact TQ.fin (.inl rfl) rfl Try.results73 (.tmp rfl .nil) rfl (FRel.mk (Ls := []) [] 2 (Gd.le.refl _) rfl rfl rfl ⟨rfl, rfl, rfl⟩)
 ·
  refine TC.seq ?_
  refine TC.seq ?_
  refine TC.region ?_
  refine TL.cons (TO.val rfl rfl rfl (Val.cmp rfl rfl run_eql) ?_)
  refine TL.cons (TO.val rfl rfl rfl (Val.assign rfl) ?_)
  refine TL.nil ?_
  refine TQ.then_ ?_
  obtain ⟨j78, hj78, h⟩ := jn_no h
  refine TC.tail (fun a W => ∃ (x77 : Bool), j78 x77 = some r ∧ Fr 39 a [(2, .int .i64 a2), (3, .pointer (some ⟨b5, 0, none⟩)), (4, .pointer (some ⟨b6, 0, none⟩)), (8, .int .i64 a0.f0), (14, .bool x77)] ∧ Own G (Blk b5 [.int .i64 a0.f0, .int .i64 a0.f1, .int .i64 a0.f2, .int .i64 a0.f3, .int .i64 a0.f4, .slice A1 a0.f5.length c2] 30 :: Blk b6 [.bool a1.f0, .bool a1.f1, .bool a1.f2, .bool a1.f3] 89 :: L) W) ?_ ?_
  ·
   rintro a W ⟨x77, h, hF, hO⟩
   rw [hj78] at h
   refine TQ.use ?_ hF hO
   clear hF hO
   refine TQ.then_ ?_
   refine TC.cond_b rfl h (fun hc88 h => ?_) (fun hc88 h => ?_)
   ·
    refine TC.seq ?_
    refine TC.region ?_
    refine TL.cons (TO.val rfl rfl rfl (Val.fieldAddrB Try.underlying30 rfl fsz3 rfl rfl rfl) ?_)
    refine TL.cons (TO.val rfl rfl rfl (Val.loadB 0 agg3 rfl rfl rfl) ?_)
    obtain ⟨y89, hy90, h⟩ := bind_no h
    refine TL.cons (TL.callV (Lin := []) (args := [.int .i64 a0.f4, .int .i64 (-2147483648), .int .i64 2147483647]) rfl rfl rfl hbd45 rfl rfl (code_within.calls (a0 := a0.f4) (a1 := (-2147483648)) (a2 := 2147483647) hy90) rfl ?_)
    rintro _ _ _ _ ⟨rfl, rfl, rfl⟩
    refine TL.cons (TO.val rfl rfl rfl (Val.assign rfl) ?_)
    refine TL.nil ?_
    refine TQ.then_ ?_
    refine TC.ret ?_
    refine TQ.inBR ?_
    refine TQ.thenR ?_
    obtain rfl := Option.some.inj h
    exact TQ.fin (.inl rfl) rfl Try.results73 (.tmp rfl .nil) rfl (FRel.mk (Ls := []) [] 2 (Gd.le.refl _) rfl rfl rfl ⟨rfl, rfl, rfl⟩)
   ·
    refine TC.seq ?_
    refine TC.region ?_
    refine TL.cons (TO.val rfl rfl rfl (Val.cmp rfl rfl run_eql) ?_)
    refine TL.cons (TO.val rfl rfl rfl (Val.assign rfl) ?_)
    refine TL.nil ?_
    refine TQ.then_ ?_
    refine TC.cond_p rfl h (fun hc97 h => ?_) (fun hc97 h => ?_)
    ·
     refine TC.seq ?_
     refine TC.region ?_
     refine TL.cons (TO.val rfl rfl rfl (Val.fieldAddrB Try.underlying30 rfl fsz3 rfl rfl rfl) ?_)
     refine TL.cons (TO.val rfl rfl rfl (Val.loadB 0 agg3 rfl rfl rfl) ?_)
     obtain ⟨y98, hy99, h⟩ := bind_no h
     refine TL.cons (TL.callV (Lin := []) (args := [.int .i64 a0.f4, .int .i64 0, .int .i64 1048576]) rfl rfl rfl hbd45 rfl rfl (code_within.calls (a0 := a0.f4) (a1 := 0) (a2 := 1048576) hy99) rfl ?_)
     rintro _ _ _ _ ⟨rfl, rfl, rfl⟩
     refine TL.cons (TO.val rfl rfl rfl (Val.assign rfl) ?_)
     refine TL.nil ?_
     refine TQ.then_ ?_
     refine TC.ret ?_
     refine TQ.inBR ?_
     refine TQ.thenR ?_
     obtain rfl := Option.some.inj h
     exact TQ.fin (.inl rfl) rfl Try.results73 (.tmp rfl .nil) rfl (FRel.mk (Ls := []) [] 2 (Gd.le.refl _) rfl rfl rfl ⟨rfl, rfl, rfl⟩)
    ·
     refine TC.seq ?_
     refine TC.region ?_
     refine TL.cons (TO.val rfl rfl rfl (Val.cmp rfl rfl run_eql) ?_)
     refine TL.cons (TO.val rfl rfl rfl (Val.assign rfl) ?_)
     refine TL.nil ?_
     refine TQ.then_ ?_
     refine TC.cond_p rfl h (fun hc103 h => ?_) (fun hc103 h => ?_)
     ·
      refine TC.seq ?_
      refine TC.region ?_
      refine TL.cons (TO.val rfl rfl rfl (Val.fieldAddrB Try.underlying30 rfl fsz3 rfl rfl rfl) ?_)
      refine TL.cons (TO.val rfl rfl rfl (Val.loadB 0 agg3 rfl rfl rfl) ?_)
      refine TL.cons (TO.val rfl rfl rfl (Val.move rfl) ?_)
      refine TL.cons (TO.val rfl rfl rfl (Val.cmp rfl rfl run_sub) ?_)
      obtain ⟨y104, hy105, h⟩ := bind_no h
      refine TL.cons (TL.callV (Lin := []) (args := [.int .i64 a0.f4, .int .i64 0, .int .i64 (IntKind.i64.wrap (a2 - 1))]) rfl rfl rfl hbd45 rfl rfl (code_within.calls (a0 := a0.f4) (a1 := 0) (a2 := IntKind.i64.wrap (a2 - 1)) hy105) rfl ?_)
      rintro _ _ _ _ ⟨rfl, rfl, rfl⟩
      refine TL.cons (TO.val rfl rfl rfl (Val.assign rfl) ?_)
      refine TL.nil ?_
      refine TQ.then_ ?_
      refine TC.ret ?_
      refine TQ.inBR ?_
      refine TQ.thenR ?_
      obtain rfl := Option.some.inj h
      exact TQ.fin (.inl rfl) rfl Try.results73 (.tmp rfl .nil) rfl (FRel.mk (Ls := []) [] 2 (Gd.le.refl _) rfl rfl rfl ⟨rfl, rfl, rfl⟩)
     ·
      refine TC.skip ?_
      refine TQ.inB ?_
      refine TQ.then_ ?_
      refine TC.seq ?_
      refine TC.region ?_
      refine TL.cons (TO.val rfl rfl rfl (Val.fieldAddrB Try.underlying89 rfl fsz4 rfl rfl rfl) ?_)
      refine TL.cons (TO.val rfl rfl rfl (Val.loadB 1 agg4 rfl rfl rfl) ?_)
      refine TL.cons (TO.val rfl rfl rfl (Val.move rfl) ?_)
      refine TK.split (p := a1.f3 = true) h (fun hg109 h => ?_) (fun hg109 h => ?_)
      ·
       have hk110 : a1.f3 = true := hg109
       refine TL.cons (TL.not (Wt.no rfl rfl rfl hk110) rfl ?_)
       refine TL.cons (TL.not (Wt.no rfl rfl rfl hk110) rfl ?_)
       refine TL.cons (TL.not (Wt.no rfl rfl rfl hk110) rfl ?_)
       refine TL.cons (TO.val rfl rfl rfl (Val.pickY rfl hk110 rfl) ?_)
       refine TL.cons (TO.val rfl rfl rfl (Val.assign rfl) ?_)
       refine TL.nil ?_
       refine TQ.then_ ?_
       refine TC.ret ?_
       obtain rfl := Option.some.inj h
       exact TQ.fin (.inl rfl) rfl Try.results73 (.tmp rfl .nil) rfl (FRel.mk (Ls := []) [] 2 (Gd.le.refl _) rfl rfl rfl ⟨rfl, rfl, rfl⟩)
      ·
       have hk111 : a1.f3 = false := (by simpa using hg109)
       refine TL.cons (TO.val (Wt.yes rfl rfl rfl hk111) rfl rfl (Val.fieldAddrB Try.underlying30 rfl fsz3 rfl rfl rfl) ?_)
       refine TL.cons (TO.val (Wt.yes rfl rfl rfl hk111) rfl rfl (Val.loadB 0 agg3 rfl rfl rfl) ?_)
       refine TL.cons (TO.val (Wt.yes rfl rfl rfl hk111) rfl rfl (Val.cmp rfl rfl run_eql) ?_)
       refine TL.cons (TO.val rfl rfl rfl (Val.pickN rfl hk111 rfl) ?_)
       refine TL.cons (TO.val rfl rfl rfl (Val.assign rfl) ?_)
       refine TL.nil ?_
       refine TQ.then_ ?_
       refine TC.ret ?_
       obtain rfl := Option.some.inj h
       exact TQ.fin (.inl rfl) rfl Try.results73 (.tmp rfl .nil) rfl (FRel.mk (Ls := []) [] 2 (Gd.le.refl _) rfl rfl rfl ⟨rfl, rfl, rfl⟩)
  ·
   refine TC.cond_p rfl h (fun hc112 h => ?_) (fun hc112 h => ?_)
   ·
    refine TC.skip ?_
    exact fun a W hF hO => ⟨decide (a0.f0 = 4), h, hF.sub ⟨rfl, rfl, rfl, rfl, rfl, trivial⟩, hO.selT (Ls := [Blk b5 [.int .i64 a0.f0, .int .i64 a0.f1, .int .i64 a0.f2, .int .i64 a0.f3, .int .i64 a0.f4, .slice A1 a0.f5.length c2] 30, Blk b6 [.bool a1.f0, .bool a1.f1, .bool a1.f2, .bool a1.f3] 89]) [1, 0] 2 rfl rfl rfl⟩
   ·
    refine TC.region ?_
    refine TL.cons (TO.val rfl rfl rfl (Val.cmp rfl rfl run_eql) ?_)
    refine TL.cons (TO.val rfl rfl rfl (Val.assign rfl) ?_)
    refine TL.nil ?_
    exact fun a W hF hO => ⟨decide (a0.f0 = 5), h, hF.sub ⟨rfl, rfl, rfl, rfl, rfl, trivial⟩, hO.selT (Ls := [Blk b5 [.int .i64 a0.f0, .int .i64 a0.f1, .int .i64 a0.f2, .int .i64 a0.f3, .int .i64 a0.f4, .slice A1 a0.f5.length c2] 30, Blk b6 [.bool a1.f0, .bool a1.f1, .bool a1.f2, .bool a1.f3] 89]) [1, 0] 2 rfl rfl rfl⟩
end Go.Proofs.Ytmacdhkfgoahcaa.Sy
set_option linter.unusedVariables false
set_option linter.unusedSimpArgs false
set_option maxRecDepth 100000
set_option maxHeartbeats 4000000
namespace Go.Proofs.Ytmacdhkfgoahcaa.Sy
open Go Go.RowKit Go.Proofs.YtmacdhkfgoahcaaW.PrintWords 
def code_RightOp_1.f (a0 : Int) : Option Bool := (code_reg.f a0).bind fun (y1 : Bool) => some (!y1)
def code_RightOp_1.post (G : Gd)  (r : Bool) (v : Value) (G' : Gd) (Lr : List Ch) : Prop := G = G' ∧ v = .bool r ∧ Lr = []
theorem code_RightOp_1.calls {G : Gd} {r : Bool} {a0 : Int} (h : code_RightOp_1.f a0 = some r) : Fn Try.prog 75 G [] [.int .i64 a0] (code_RightOp_1.post G  r) := by
 refine Fn.intro (e := [(0, .int .i64 a0)]) 6 Try.func75 rfl Try.ntmps75 rfl rfl (Nat.le_of_ble_eq_true rfl) (fun L => ?_)
 unfold code_RightOp_1.f at h
 refine TC.seq ?_
 refine TC.region ?_
 refine TL.cons (TO.val rfl rfl rfl (Val.assign rfl) ?_)
 refine TL.nil ?_
 refine TQ.then_ ?_
 refine TC.seq ?_
 refine TC.region ?_
 refine TL.cons (TO.val rfl rfl rfl (Val.move rfl) ?_)
 obtain ⟨y1, hy2, h⟩ := bind_no h
 refine TL.cons (TL.callV (Lin := []) (args := [.int .i64 a0]) rfl rfl rfl hbd70 rfl rfl (code_reg.calls (a0 := a0) hy2) rfl ?_)
 rintro _ _ _ _ ⟨rfl, rfl, rfl⟩
 refine TL.cons (TO.val rfl rfl rfl (Val.not_ rfl) ?_)
 refine TL.cons (TO.val rfl rfl rfl (Val.assign rfl) ?_)
 refine TL.nil ?_
 refine TQ.then_ ?_
 refine TC.ret ?_
 obtain rfl := Option.some.inj h
 exact TQ.fin (.inl rfl) rfl Try.results75 (.tmp rfl .nil) rfl (FRel.mk (Ls := []) [] 0 (Gd.le.refl _) rfl rfl rfl ⟨rfl, rfl, rfl⟩)
end Go.Proofs.Ytmacdhkfgoahcaa.Sy
set_option linter.unusedVariables false
set_option linter.unusedSimpArgs false
set_option maxRecDepth 100000
set_option maxHeartbeats 4000000
namespace Go.Proofs.Ytmacdhkfgoahcaa.Sy
open Go Go.RowKit Go.Proofs.YtmacdhkfgoahcaaW.PrintWords 
def code_RightOp.l0 (a0 : S30) (j514 : (Int → Option Bool)) : Nat → Int → Option (Sum Bool (Unit))
 | 0, _ => none
 | n602 + 1, x572 => (if x572 < (a0.f5.length : Int) then (at? a0.f5 x572).bind fun y646 => (code_RightOp_1.f y646).bind fun (y655 : Bool) => (if y655 = true then (j514 x572).bind fun q_ => some (.inl q_) else code_RightOp.l0 a0 j514 n602 (IntKind.i64.wrap (x572 + 1))) else some (.inr ()))
def code_RightOp.f (a0 : S30) (a1 : Int) : Option Bool := (code_shapeOf.f a0.f0).bind fun (y6 : (S89 × Bool)) => jn (γ := Bool) (fun (x70 : Bool) => (if x70 = true then some false else (if (!decide (a0.f0 = 7)) = true then some (decide ((a0.f5.length : Int) = 0)) else (if (a0.f5.length : Int) ≤ 8 then jn (γ := Bool) (fun (x513 : Int) => some (!(decide (0 ≤ x513)))) (fun (j514 : (Int → Option Bool)) => (code_RightOp.l0 a0 j514 (a0.f5.length + 1) 0).bind fun | .inl q_ => some q_ | .inr _ => (j514 (-1))) else some false)))) (fun (j71 : (Bool → Option Bool)) => (if (!y6.2) = true then j71 (!y6.2) else (code_field.f a0.f1 y6.1.f0).bind fun (y661 : Bool) => (if (!y661) = true then j71 (!y661) else (code_field.f a0.f2 y6.1.f1).bind fun (y673 : Bool) => (if (!y673) = true then j71 (!y673) else (code_field.f a0.f3 y6.1.f2).bind fun (y682 : Bool) => (if (!y682) = true then j71 (!y682) else (code_immediate.f a0 y6.1 a1).bind fun (y688 : Bool) => j71 (!y688))))))
def code_RightOp.post (G : Gd)  (r : Bool) (v : Value) (G' : Gd) (Lr : List Ch) : Prop := G = G' ∧ v = .bool r ∧ Lr = []
theorem code_RightOp.calls {G : Gd} {r : Bool} {a0 : S30} {a1 : Int} {A1 : Option Addr} {c2 : Nat} (hr3 : Rd G (Kd.int .i64) A1 a0.f5) (hl4 : a0.f5.length ≤ c2) (h : code_RightOp.f a0 a1 = some r) : Fn Try.prog 50 G [] [.agg #[.int .i64 a0.f0, .int .i64 a0.f1, .int .i64 a0.f2, .int .i64 a0.f3, .int .i64 a0.f4, .slice A1 a0.f5.length c2], .int .i64 a1] (code_RightOp.post G  r) := by
 refine Fn.intro (e := [(0, .agg #[.int .i64 a0.f0, .int .i64 a0.f1, .int .i64 a0.f2, .int .i64 a0.f3, .int .i64 a0.f4, .slice A1 a0.f5.length c2]), (1, .int .i64 a1)]) 57 Try.func50 rfl Try.ntmps50 rfl rfl (Nat.le_of_ble_eq_true rfl) (fun L => ?_)
 unfold code_RightOp.f at h
 refine TC.seq ?_
 refine TC.region ?_
 refine TL.cons (TL.box (cs := [.int .i64 a0.f0, .int .i64 a0.f1, .int .i64 a0.f2, .int .i64 a0.f3, .int .i64 a0.f4, .slice A1 a0.f5.length c2]) rfl rfl rfl rfl (fun b5 => ?_))
 refine TL.cons (TO.val rfl rfl rfl (Val.assign rfl) ?_)
 refine TL.nil ?_
 refine TQ.then_ ?_
 refine TC.seq ?_
 refine TC.region ?_
 refine TL.cons (TO.val rfl rfl rfl (Val.fieldAddrB Try.underlying30 rfl fsz3 rfl rfl rfl) ?_)
 refine TL.cons (TO.val rfl rfl rfl (Val.loadB 0 agg3 rfl rfl rfl) ?_)
 obtain ⟨y6, hy7, h⟩ := bind_no h
 refine TL.cons (TL.callV (Lin := []) (args := [.int .i64 a0.f0]) rfl rfl rfl hbd61 rfl rfl (code_shapeOf.calls (a0 := a0.f0) hy7) rfl ?_)
 rintro _ _ _ _ ⟨rfl, rfl, rfl⟩
 refine TL.cons (TO.val rfl rfl rfl (Val.move rfl) ?_)
 refine TL.cons (TO.val rfl rfl rfl (Val.extract rfl rfl) ?_)
 refine TL.cons (TO.val rfl rfl rfl (Val.extract rfl rfl) ?_)
 refine TL.cons (TL.alloc (cs := [.bool false, .bool false, .bool false, .bool false]) rfl rfl zr89 rfl (fun b8 => ?_))
 refine TL.cons (TL.store 0 (ds := [.bool y6.1.f0, .bool y6.1.f1, .bool y6.1.f2, .bool y6.1.f3]) (cs' := [.bool y6.1.f0, .bool y6.1.f1, .bool y6.1.f2, .bool y6.1.f3]) (L' := (Blk b8 [.bool y6.1.f0, .bool y6.1.f1, .bool y6.1.f2, .bool y6.1.f3] 89 :: Blk b5 [.int .i64 a0.f0, .int .i64 a0.f1, .int .i64 a0.f2, .int .i64 a0.f3, .int .i64 a0.f4, .slice A1 a0.f5.length c2] 30 :: L)) rfl fsz89 rfl rfl rfl rfl rfl (Nat.le_of_ble_eq_true rfl) rfl rfl ?_)
 refine TL.cons (TO.val rfl rfl rfl (Val.assign rfl) ?_)
 refine TL.nil ?_
 refine TQ.then_ ?_
 refine TC.seq ?_
 refine TC.block ?_
 refine TC.seq ?_
 refine TC.seq ?_
 refine TC.region ?_
 refine TL.cons (TO.val rfl rfl rfl (Val.move rfl) ?_)
 refine TL.cons (TO.val rfl rfl rfl (Val.not_ rfl) ?_)
 refine TL.cons (TO.val rfl rfl rfl (Val.assign rfl) ?_)
 refine TL.nil ?_
 refine TQ.then_ ?_
 obtain ⟨j71, hj71, h⟩ := jn_no h
 refine TC.tail (fun a W => ∃ (x70 : Bool), j71 x70 = some r ∧ Fr 57 a [(2, .pointer (some ⟨b5, 0, none⟩)), (13, .bool x70)] ∧ Own G (Blk b5 [.int .i64 a0.f0, .int .i64 a0.f1, .int .i64 a0.f2, .int .i64 a0.f3, .int .i64 a0.f4, .slice A1 a0.f5.length c2] 30 :: L) W) ?_ ?_
 ·
  rintro a W ⟨x70, h, hF, hO⟩
  rw [hj71] at h
  refine TQ.use ?_ hF hO
  clear hF hO
  refine TQ.then_ ?_
  refine TC.cond_b rfl h (fun hc74 h => ?_) (fun hc74 h => ?_)
  ·
   refine TC.seq ?_
   refine TC.region ?_
   refine TL.cons (TO.val rfl rfl rfl (Val.assign rfl) ?_)
   refine TL.nil ?_
   refine TQ.then_ ?_
   refine TC.ret ?_
   refine TQ.inBR ?_
   refine TQ.thenR ?_
   obtain rfl := Option.some.inj h
   exact TQ.fin (.inl rfl) rfl Try.results50 (.tmp rfl .nil) rfl (FRel.mk (Ls := []) [] 1 (Gd.le.refl _) rfl rfl rfl ⟨rfl, rfl, rfl⟩)
  ·
   refine TC.seq ?_
   refine TC.region ?_
   refine TL.cons (TO.val rfl rfl rfl (Val.fieldAddrB Try.underlying30 rfl fsz3 rfl rfl rfl) ?_)
   refine TL.cons (TO.val rfl rfl rfl (Val.loadB 0 agg3 rfl rfl rfl) ?_)
   refine TL.cons (TO.val rfl rfl rfl (Val.cmp rfl rfl run_neq) ?_)
   refine TL.cons (TO.val rfl rfl rfl (Val.assign rfl) ?_)
   refine TL.nil ?_
   refine TQ.then_ ?_
   refine TC.cond_b rfl h (fun hc76 h => ?_) (fun hc76 h => ?_)
   ·
    refine TC.seq ?_
    refine TC.region ?_
    refine TL.cons (TO.val rfl rfl rfl (Val.fieldAddrB Try.underlying30 rfl fsz22 rfl rfl rfl) ?_)
    refine TL.cons (TO.val rfl rfl rfl (Val.loadB 0 agg22 rfl rfl rfl) ?_)
    refine TL.cons (TO.val rfl rfl rfl (Val.len Try.underlying22 rfl) ?_)
    refine TL.cons (TO.val rfl rfl rfl (Val.cmp rfl rfl run_eql) ?_)
    refine TL.cons (TO.val rfl rfl rfl (Val.assign rfl) ?_)
    refine TL.nil ?_
    refine TQ.then_ ?_
    refine TC.ret ?_
    refine TQ.inBR ?_
    refine TQ.thenR ?_
    obtain rfl := Option.some.inj h
    exact TQ.fin (.inl rfl) rfl Try.results50 (.tmp rfl .nil) rfl (FRel.mk (Ls := []) [] 1 (Gd.le.refl _) rfl rfl rfl ⟨rfl, rfl, rfl⟩)
   ·
    refine TC.skip ?_
    refine TQ.inB ?_
    refine TQ.then_ ?_
    refine TC.seq ?_
    refine TC.region ?_
    refine TL.cons (TO.val rfl rfl rfl (Val.fieldAddrB Try.underlying30 rfl fsz22 rfl rfl rfl) ?_)
    refine TL.cons (TO.val rfl rfl rfl (Val.loadB 0 agg22 rfl rfl rfl) ?_)
    refine TL.cons (TO.val rfl rfl rfl (Val.len Try.underlying22 rfl) ?_)
    refine TL.cons (TO.val rfl rfl rfl (Val.cmp rfl rfl run_leq) ?_)
    refine TL.cons (TO.val rfl rfl rfl (Val.move rfl) ?_)
    refine TK.split (p := (a0.f5.length : Int) ≤ 8) h (fun hg296 h => ?_) (fun hg296 h => ?_)
    ·
     have hk297 : decide ((a0.f5.length : Int) ≤ 8) = true := decide_eq_true hg296
     refine TL.cons (TO.val (Wt.yes rfl rfl rfl hk297) rfl rfl (Val.fieldAddrB Try.underlying30 rfl fsz22 rfl rfl rfl) ?_)
     refine TL.cons (TO.val (Wt.yes rfl rfl rfl hk297) rfl rfl (Val.loadB 0 agg22 rfl rfl rfl) ?_)
     refine TL.cons (TO.inl (args := [.slice A1 a0.f5.length c2, .func (.func 75) #[] #[]]) (e' := [(0, .slice A1 a0.f5.length c2), (1, .func (.func 75) #[] #[])]) 9 (Wt.yes rfl rfl rfl hk297) rfl hbd74 rfl rfl Try.func74 rfl Try.ntmps74 rfl rfl (Nat.le_of_ble_eq_true rfl) (fun a298 hf299 => ?_))
     refine TC.seq ?_
     refine TC.region ?_
     refine TL.cons (TO.val rfl rfl rfl (Val.assign rfl) ?_)
     refine TL.nil ?_
     refine TQ.then_ ?_
     refine TC.seq ?_
     refine TC.region ?_
     refine TL.cons (TO.val rfl rfl rfl (Val.move rfl) ?_)
     refine TL.cons (TO.val rfl rfl rfl (Val.move rfl) ?_)
     refine TL.cons (TO.inl (args := [.slice A1 a0.f5.length c2, .func (.func 75) #[] #[]]) (e' := [(0, .slice A1 a0.f5.length c2), (1, .func (.func 75) #[] #[])]) 19 rfl rfl hbd87 rfl rfl Try.func87 rfl Try.ntmps87 rfl rfl (Nat.le_of_ble_eq_true rfl) (fun a428 hf429 => ?_))
     obtain ⟨j514, hj514, h⟩ := jn_no h
     refine TC.after (fun en W => ∃ (x513 : Int), j514 x513 = some r ∧ en = .returned (.int .i64 x513) ∧ Own G (Blk b5 [.int .i64 a0.f0, .int .i64 a0.f1, .int .i64 a0.f2, .int .i64 a0.f3, .int .i64 a0.f4, .slice A1 a0.f5.length c2] 30 :: L) W) ?_ ?_
     ·
      rintro en W ⟨x513, h, rfl, hO⟩
      rw [hj514] at h
      refine (After.mk hf429 rfl ?_) W hO
      clear hO
      refine TL.cons (TO.val rfl rfl rfl (Val.cmp rfl rfl run_geq) ?_)
      refine TL.cons (TO.val rfl rfl rfl (Val.assign rfl) ?_)
      refine TL.nil ?_
      refine TQ.then_ ?_
      refine TC.ret ?_
      refine TQ.fin (v := .bool (decide (0 ≤ x513))) (.inl rfl) rfl Try.results74 (.tmp rfl .nil) rfl (After.mk hf299 rfl ?_)
      refine TL.cons (TO.val (Wt.yes rfl rfl rfl hk297) rfl rfl (Val.not_ rfl) ?_)
      refine TL.cons (TO.val rfl rfl rfl (Val.pickY rfl hk297 rfl) ?_)
      refine TL.cons (TO.val rfl rfl rfl (Val.assign rfl) ?_)
      refine TL.nil ?_
      refine TQ.then_ ?_
      refine TC.ret ?_
      obtain rfl := Option.some.inj h
      exact TQ.fin (.inl rfl) rfl Try.results50 (.tmp rfl .nil) rfl (FRel.mk (Ls := []) [] 1 (Gd.le.refl _) rfl rfl rfl ⟨rfl, rfl, rfl⟩)
     ·
      refine TC.seq ?_
      refine TC.region ?_
      refine TL.cons (TO.val rfl rfl rfl (Val.assign rfl) ?_)
      refine TL.nil ?_
      refine TQ.then_ ?_
      refine TC.seq ?_
      refine TC.seq ?_
      refine TC.region ?_
      refine TL.cons (TO.val rfl rfl rfl (Val.move rfl) ?_)
      refine TL.cons (TO.val rfl rfl rfl (Val.len Try.underlying22 rfl) ?_)
      refine TL.cons (TO.val rfl rfl rfl (Val.move rfl) ?_)
      refine TL.nil ?_
      refine TQ.then_ ?_
      obtain ⟨o601, ho601, ko601⟩ := bind_no h
      clear h
      refine TC.tail (fun a W => (.inr ()) = o601 ∧ Fr 19 a [] ∧ Own G (Blk b5 [.int .i64 a0.f0, .int .i64 a0.f1, .int .i64 a0.f2, .int .i64 a0.f3, .int .i64 a0.f4, .slice A1 a0.f5.length c2] 30 :: L) W) ?_ ?_
      ·
       rintro a W ⟨rfl, hF, hO⟩
       have h := ko601
       clear ko601 ho601
       refine TQ.use ?_ hF hO
       clear hF hO
       refine TQ.then_ ?_
       refine TC.seq ?_
       refine TC.region ?_
       refine TL.cons (TO.val rfl rfl rfl (Val.assign rfl) ?_)
       refine TL.nil ?_
       refine TQ.then_ ?_
       refine TC.ret ?_
       exact TQ.fin (v := .int .i64 (-1)) (.inl rfl) rfl Try.results87 (.tmp rfl .nil) rfl (fun W hO => ⟨(-1), h, rfl, hO.selT (Ls := [Blk b5 [.int .i64 a0.f0, .int .i64 a0.f1, .int .i64 a0.f2, .int .i64 a0.f3, .int .i64 a0.f4, .slice A1 a0.f5.length c2] 30]) [0] 1 rfl rfl rfl⟩)
      ·
       refine TC.block ?_
       intro a W hF hO
       have hS : ∃ (x572 : Int), code_RightOp.l0 a0 j514 (a0.f5.length + 1) x572 = some o601 ∧ Fr 19 a [(0, .slice A1 a0.f5.length c2), (1, .func (.func 75) #[] #[]), (7, .int .i64 (a0.f5.length : Int)), (8, .int .i64 x572)] ∧ Own G (Blk b5 [.int .i64 a0.f0, .int .i64 a0.f1, .int .i64 a0.f2, .int .i64 a0.f3, .int .i64 a0.f4, .slice A1 a0.f5.length c2] 30 :: L) W := by
        exact ⟨0, ho601, hF.sub ⟨rfl, rfl, rfl, rfl, trivial⟩, hO.selT (Ls := [Blk b5 [.int .i64 a0.f0, .int .i64 a0.f1, .int .i64 a0.f2, .int .i64 a0.f3, .int .i64 a0.f4, .slice A1 a0.f5.length c2] 30]) [0] 1 rfl rfl rfl⟩
       clear hF hO ho601
       refine TC.loop (fun n602 a W => ∃ (x572 : Int), code_RightOp.l0 a0 j514 n602 x572 = some o601 ∧ Fr 19 a [(0, .slice A1 a0.f5.length c2), (1, .func (.func 75) #[] #[]), (7, .int .i64 (a0.f5.length : Int)), (8, .int .i64 x572)] ∧ Own G (Blk b5 [.int .i64 a0.f0, .int .i64 a0.f1, .int .i64 a0.f2, .int .i64 a0.f3, .int .i64 a0.f4, .slice A1 a0.f5.length c2] 30 :: L) W) ?_ ?_ hS
       ·
        rintro a W ⟨x572, h, hF, hO⟩
        exact none_no h
       ·
        clear hS
        rintro n602 a W ⟨x572, h, hF, hO⟩
        rw [code_RightOp.l0] at h
        refine TC.use ?_ hF hO
        clear hF hO
        refine TC.seq ?_
        refine TC.region ?_
        refine TL.cons (TO.val rfl rfl rfl (Val.cmp rfl rfl run_lss) ?_)
        refine TL.nil ?_
        refine TQ.then_ ?_
        refine TC.seq ?_
        refine TC.cond_p rfl h (fun hc632 h => ?_) (fun hc632 h => ?_)
        ·
         refine TC.skip ?_
         refine TQ.then_ ?_
         refine TC.seq ?_
         refine TC.block ?_
         refine TC.seq ?_
         refine TC.region ?_
         refine TL.cons (TO.val rfl rfl rfl (Val.move rfl) ?_)
         refine TL.cons (TO.val rfl rfl rfl (Val.assign rfl) ?_)
         refine TL.nil ?_
         refine TQ.then_ ?_
         refine TC.seq ?_
         refine TC.region ?_
         refine TL.cons (TO.val rfl rfl rfl (Val.move rfl) ?_)
         refine TL.cons (TO.val rfl rfl rfl (Val.move rfl) ?_)
         refine TL.cons (TO.val rfl rfl rfl (Val.move rfl) ?_)
         obtain ⟨y646, hx647, h⟩ := bind_no h
         obtain ⟨ad648, cs654, hA649, hi650, hj651, hcl652, hK653⟩ := Rd.at hr3 hx647
         obtain rfl := RdK.int hK653
         refine TL.cons (TO.val rfl rfl rfl (Val.indexAddr Try.underlying22 fsz3 rfl hA649 rfl hi650 hj651) ?_)
         refine TL.cons (TO.val rfl rfl rfl (Val.loadS agg3 rfl (hcl652 0 _ rfl)) ?_)
         obtain ⟨y655, hy656, h⟩ := bind_no h
         refine TL.cons (TL.callV (Lin := []) (args := [.int .i64 y646]) rfl rfl rfl hbd75 rfl rfl (code_RightOp_1.calls (a0 := y646) hy656) rfl ?_)
         rintro _ _ _ _ ⟨rfl, rfl, rfl⟩
         refine TL.nil ?_
         refine TQ.then_ ?_
         refine TC.cond_b rfl h (fun hc658 h => ?_) (fun hc658 h => ?_)
         ·
          refine TC.seq ?_
          refine TC.region ?_
          refine TL.cons (TO.val rfl rfl rfl (Val.move rfl) ?_)
          refine TL.cons (TO.val rfl rfl rfl (Val.assign rfl) ?_)
          refine TL.nil ?_
          refine TQ.then_ ?_
          refine TC.ret ?_
          refine TQ.inBR ?_
          refine TQ.thenR ?_
          refine TQ.thenR ?_
          refine TQ.inBR ?_
          refine TQ.thenR ?_
          refine TQ.thenR ?_
          obtain ⟨q_, hq_, h⟩ := bind_no h
          obtain rfl := Option.some.inj h
          have h := ko601
          obtain rfl := Option.some.inj h
          have h := hq_
          clear hq_
          exact TQ.fin (v := .int .i64 x572) (.inl rfl) rfl Try.results87 (.tmp rfl .nil) rfl (fun W hO => ⟨x572, h, rfl, hO.selT (Ls := [Blk b5 [.int .i64 a0.f0, .int .i64 a0.f1, .int .i64 a0.f2, .int .i64 a0.f3, .int .i64 a0.f4, .slice A1 a0.f5.length c2] 30]) [0] 1 rfl rfl rfl⟩)
         ·
          refine TC.skip ?_
          refine TQ.inB ?_
          refine TQ.then_ ?_
          refine TC.region ?_
          refine TL.cons (TO.val rfl rfl rfl (Val.cmp rfl rfl run_add) ?_)
          refine TL.cons (TO.val rfl rfl rfl (Val.move rfl) ?_)
          refine TL.nil ?_
          exact fun a W hF hO => ⟨IntKind.i64.wrap (x572 + 1), h, hF.sub ⟨rfl, rfl, rfl, rfl, trivial⟩, hO.selT (Ls := [Blk b5 [.int .i64 a0.f0, .int .i64 a0.f1, .int .i64 a0.f2, .int .i64 a0.f3, .int .i64 a0.f4, .slice A1 a0.f5.length c2] 30]) [0] 1 rfl rfl rfl⟩
        ·
         refine TC.exit ?_
         refine TQ.thenX ?_
         refine TQ.thenX ?_
         refine TQ.inBX ?_
         exact fun a W hF hO => ⟨Option.some.inj h, hF.sub trivial, hO.selT (Ls := [Blk b5 [.int .i64 a0.f0, .int .i64 a0.f1, .int .i64 a0.f2, .int .i64 a0.f3, .int .i64 a0.f4, .slice A1 a0.f5.length c2] 30]) [0] 1 rfl rfl rfl⟩
    ·
     have hk659 : decide ((a0.f5.length : Int) ≤ 8) = false := decide_eq_false hg296
     refine TL.cons (TL.not (Wt.no rfl rfl rfl hk659) rfl ?_)
     refine TL.cons (TL.not (Wt.no rfl rfl rfl hk659) rfl ?_)
     refine TL.cons (TL.not (Wt.no rfl rfl rfl hk659) rfl ?_)
     refine TL.cons (TL.not (Wt.no rfl rfl rfl hk659) rfl ?_)
     refine TL.cons (TO.val rfl rfl rfl (Val.pickN rfl hk659 rfl) ?_)
     refine TL.cons (TO.val rfl rfl rfl (Val.assign rfl) ?_)
     refine TL.nil ?_
     refine TQ.then_ ?_
     refine TC.ret ?_
     obtain rfl := Option.some.inj h
     exact TQ.fin (.inl rfl) rfl Try.results50 (.tmp rfl .nil) rfl (FRel.mk (Ls := []) [] 1 (Gd.le.refl _) rfl rfl rfl ⟨rfl, rfl, rfl⟩)
 ·
  refine TC.cond_b rfl h (fun hc660 h => ?_) (fun hc660 h => ?_)
  ·
   refine TC.skip ?_
   exact fun a W hF hO => ⟨(!y6.2), h, hF.sub ⟨rfl, rfl, trivial⟩, hO.selT (Ls := [Blk b5 [.int .i64 a0.f0, .int .i64 a0.f1, .int .i64 a0.f2, .int .i64 a0.f3, .int .i64 a0.f4, .slice A1 a0.f5.length c2] 30]) [1] 2 rfl rfl rfl⟩
  ·
   refine TC.seq ?_
   refine TC.region ?_
   refine TL.cons (TO.val rfl rfl rfl (Val.fieldAddrB Try.underlying30 rfl fsz3 rfl rfl rfl) ?_)
   refine TL.cons (TO.val rfl rfl rfl (Val.loadB 1 agg3 rfl rfl rfl) ?_)
   refine TL.cons (TO.val rfl rfl rfl (Val.fieldAddrB Try.underlying89 rfl fsz4 rfl rfl rfl) ?_)
   refine TL.cons (TO.val rfl rfl rfl (Val.loadB 0 agg4 rfl rfl rfl) ?_)
   obtain ⟨y661, hy662, h⟩ := bind_no h
   refine TL.cons (TL.callV (Lin := []) (args := [.int .i64 a0.f1, .bool y6.1.f0]) rfl rfl rfl hbd72 rfl rfl (code_field.calls (a0 := a0.f1) (a1 := y6.1.f0) hy662) rfl ?_)
   rintro _ _ _ _ ⟨rfl, rfl, rfl⟩
   refine TL.cons (TO.val rfl rfl rfl (Val.not_ rfl) ?_)
   refine TL.cons (TO.val rfl rfl rfl (Val.assign rfl) ?_)
   refine TL.nil ?_
   refine TQ.then_ ?_
   refine TC.cond_b rfl h (fun hc672 h => ?_) (fun hc672 h => ?_)
   ·
    refine TC.skip ?_
    exact fun a W hF hO => ⟨(!y661), h, hF.sub ⟨rfl, rfl, trivial⟩, hO.selT (Ls := [Blk b5 [.int .i64 a0.f0, .int .i64 a0.f1, .int .i64 a0.f2, .int .i64 a0.f3, .int .i64 a0.f4, .slice A1 a0.f5.length c2] 30]) [1] 2 rfl rfl rfl⟩
   ·
    refine TC.seq ?_
    refine TC.region ?_
    refine TL.cons (TO.val rfl rfl rfl (Val.fieldAddrB Try.underlying30 rfl fsz3 rfl rfl rfl) ?_)
    refine TL.cons (TO.val rfl rfl rfl (Val.loadB 1 agg3 rfl rfl rfl) ?_)
    refine TL.cons (TO.val rfl rfl rfl (Val.fieldAddrB Try.underlying89 rfl fsz4 rfl rfl rfl) ?_)
    refine TL.cons (TO.val rfl rfl rfl (Val.loadB 0 agg4 rfl rfl rfl) ?_)
    obtain ⟨y673, hy674, h⟩ := bind_no h
    refine TL.cons (TL.callV (Lin := []) (args := [.int .i64 a0.f2, .bool y6.1.f1]) rfl rfl rfl hbd72 rfl rfl (code_field.calls (a0 := a0.f2) (a1 := y6.1.f1) hy674) rfl ?_)
    rintro _ _ _ _ ⟨rfl, rfl, rfl⟩
    refine TL.cons (TO.val rfl rfl rfl (Val.not_ rfl) ?_)
    refine TL.cons (TO.val rfl rfl rfl (Val.assign rfl) ?_)
    refine TL.nil ?_
    refine TQ.then_ ?_
    refine TC.cond_b rfl h (fun hc681 h => ?_) (fun hc681 h => ?_)
    ·
     refine TC.skip ?_
     exact fun a W hF hO => ⟨(!y673), h, hF.sub ⟨rfl, rfl, trivial⟩, hO.selT (Ls := [Blk b5 [.int .i64 a0.f0, .int .i64 a0.f1, .int .i64 a0.f2, .int .i64 a0.f3, .int .i64 a0.f4, .slice A1 a0.f5.length c2] 30]) [1] 2 rfl rfl rfl⟩
    ·
     refine TC.seq ?_
     refine TC.region ?_
     refine TL.cons (TO.val rfl rfl rfl (Val.fieldAddrB Try.underlying30 rfl fsz3 rfl rfl rfl) ?_)
     refine TL.cons (TO.val rfl rfl rfl (Val.loadB 1 agg3 rfl rfl rfl) ?_)
     refine TL.cons (TO.val rfl rfl rfl (Val.fieldAddrB Try.underlying89 rfl fsz4 rfl rfl rfl) ?_)
     refine TL.cons (TO.val rfl rfl rfl (Val.loadB 0 agg4 rfl rfl rfl) ?_)
     obtain ⟨y682, hy683, h⟩ := bind_no h
     refine TL.cons (TL.callV (Lin := []) (args := [.int .i64 a0.f3, .bool y6.1.f2]) rfl rfl rfl hbd72 rfl rfl (code_field.calls (a0 := a0.f3) (a1 := y6.1.f2) hy683) rfl ?_)
     rintro _ _ _ _ ⟨rfl, rfl, rfl⟩
     refine TL.cons (TO.val rfl rfl rfl (Val.not_ rfl) ?_)
     refine TL.cons (TO.val rfl rfl rfl (Val.assign rfl) ?_)
     refine TL.nil ?_
     refine TQ.then_ ?_
     refine TC.cond_b rfl h (fun hc687 h => ?_) (fun hc687 h => ?_)
     ·
      refine TC.skip ?_
      exact fun a W hF hO => ⟨(!y682), h, hF.sub ⟨rfl, rfl, trivial⟩, hO.selT (Ls := [Blk b5 [.int .i64 a0.f0, .int .i64 a0.f1, .int .i64 a0.f2, .int .i64 a0.f3, .int .i64 a0.f4, .slice A1 a0.f5.length c2] 30]) [1] 2 rfl rfl rfl⟩
     ·
      refine TC.region ?_
      refine TL.cons (TO.val rfl rfl rfl (Val.loadsB 1 (cs := [.int .i64 a0.f0, .int .i64 a0.f1, .int .i64 a0.f2, .int .i64 a0.f3, .int .i64 a0.f4, .slice A1 a0.f5.length c2]) agg30 fsz30 rfl rfl rfl rfl) ?_)
      refine TL.cons (TO.val rfl rfl rfl (Val.loadsB 0 (cs := [.bool y6.1.f0, .bool y6.1.f1, .bool y6.1.f2, .bool y6.1.f3]) agg89 fsz89 rfl rfl rfl rfl) ?_)
      refine TL.cons (TO.val rfl rfl rfl (Val.move rfl) ?_)
      obtain ⟨y688, hy689, h⟩ := bind_no h
      refine TL.cons (TL.callV (Lin := []) (args := [.agg #[.int .i64 a0.f0, .int .i64 a0.f1, .int .i64 a0.f2, .int .i64 a0.f3, .int .i64 a0.f4, .slice A1 a0.f5.length c2], .agg #[.bool y6.1.f0, .bool y6.1.f1, .bool y6.1.f2, .bool y6.1.f3], .int .i64 a1]) rfl rfl rfl hbd73 rfl rfl (code_immediate.calls (a0 := a0) (a1 := y6.1) (a2 := a1) hr3 hl4 hy689) rfl ?_)
      rintro _ _ _ _ ⟨rfl, rfl, rfl⟩
      refine TL.cons (TO.val rfl rfl rfl (Val.not_ rfl) ?_)
      refine TL.cons (TO.val rfl rfl rfl (Val.assign rfl) ?_)
      refine TL.nil ?_
      exact fun a W hF hO => ⟨(!y688), h, hF.sub ⟨rfl, rfl, trivial⟩, hO.selT (Ls := [Blk b5 [.int .i64 a0.f0, .int .i64 a0.f1, .int .i64 a0.f2, .int .i64 a0.f3, .int .i64 a0.f4, .slice A1 a0.f5.length c2] 30]) [1] 2 rfl rfl rfl⟩
end Go.Proofs.Ytmacdhkfgoahcaa.Sy
set_option linter.unusedVariables false
set_option linter.unusedSimpArgs false
set_option maxRecDepth 100000
set_option maxHeartbeats 4000000
namespace Go.Proofs.Ytmacdhkfgoahcaa.Sy
open Go Go.RowKit Go.Proofs.YtmacdhkfgoahcaaW.PrintWords 
def code_Right.l1 (a1 : Int) (y2387 : S28) : Nat → Int → Int → Option (Sum (Sum Bool (Int)) (Int))
 | 0, _, _ => none
 | n2662 + 1, x2573, x2574 => (if x2573 < (y2387.f0.length : Int) then (at? y2387.f0 x2573).bind fun y2794 => jn (γ := (Sum (Sum Bool (Int)) (Int))) (fun (x2830 : Bool) => (if x2830 = true then some (.inl (.inl false)) else code_Right.l1 a1 y2387 n2662 (IntKind.i64.wrap (x2573 + 1)) (IntKind.i64.wrap (x2574 + 1)))) (fun (j2831 : (Bool → Option (Sum (Sum Bool (Int)) (Int)))) => (if 16384 < (IntKind.i64.wrap (x2574 + 1)) then j2831 true else (code_RightOp.f y2794 a1).bind fun (y2838 : Bool) => j2831 (!y2838))) else some (.inr x2574))
def code_Right.l0 (a0 : S36) (a1 : Int) : Nat → Int → Int → Option (Sum Bool (Int))
 | 0, _, _ => none
 | n1880 + 1, x1575, x1576 => (if x1575 < (a0.f1.length : Int) then (at? a0.f1 x1575).bind fun y2387 => (code_Right.l1 a1 y2387 (y2387.f0.length + 1) 0 x1576).bind fun | .inl q_ => some q_ | .inr x2660 => (code_Right.l0 a0 a1 n1880 (IntKind.i64.wrap (x1575 + 1)) x2660) else some (.inr x1576))
def code_Right.l2 (a0 : S36) (j387 : (Int → Option Bool)) : Nat → Int → Option (Sum Bool (Unit))
 | 0, _ => none
 | n2987 + 1, x2937 => (if x2937 < (a0.f1.length : Int) then (at? a0.f1 x2937).bind fun y3061 => (code_rightTerm.f y3061.f1 (a0.f1.length : Int)).bind fun (y3080 : Bool) => (if (!y3080) = true then (j387 x2937).bind fun q_ => some (.inl q_) else code_Right.l2 a0 j387 n2987 (IntKind.i64.wrap (x2937 + 1))) else some (.inr ()))
def code_Right.f (a0 : S36) (a1 : Int) : Option Bool := jn (γ := Bool) (fun (x16 : Bool) => (if x16 = true then some false else jn (γ := Bool) (fun (x386 : Int) => (if 0 ≤ x386 then some false else (code_Right.l0 a0 a1 (a0.f1.length + 1) 0 0).bind fun | .inl q_ => some q_ | .inr x1878 => (some true))) (fun (j387 : (Int → Option Bool)) => (code_Right.l2 a0 j387 (a0.f1.length + 1) 0).bind fun | .inl q_ => some q_ | .inr _ => (j387 (-1))))) (fun (j17 : (Bool → Option Bool)) => (code_within.f (a0.f1.length : Int) 1 4096).bind fun (y3084 : Bool) => (if (!y3084) = true then j17 true else (code_within.f a0.f0 0 8).bind fun (y3089 : Bool) => j17 (!y3089)))
def code_Right.post (G : Gd)  (r : Bool) (v : Value) (G' : Gd) (Lr : List Ch) : Prop := G = G' ∧ v = .bool r ∧ Lr = []
theorem code_Right.calls {G : Gd} {r : Bool} {a0 : S36} {a1 : Int} {A1 : Option Addr} {c2 : Nat} (hr3 : Rd G k28 A1 a0.f1) (hl4 : a0.f1.length ≤ c2) (h : code_Right.f a0 a1 = some r) : Fn Try.prog 23 G [] [.agg #[.int .i64 a0.f0, .slice A1 a0.f1.length c2], .int .i64 a1] (code_Right.post G  r) := by
 refine Fn.intro (e := [(0, .agg #[.int .i64 a0.f0, .slice A1 a0.f1.length c2]), (1, .int .i64 a1)]) 35 Try.func23 rfl Try.ntmps23 rfl rfl (Nat.le_of_ble_eq_true rfl) (fun L => ?_)
 unfold code_Right.f at h
 refine TC.new (ch := Mk []) Mk.nil ?_
 refine TC.seq ?_
 refine TC.region ?_
 refine TL.cons (TL.box (cs := [.int .i64 a0.f0, .slice A1 a0.f1.length c2]) rfl rfl rfl rfl (fun b6 => ?_))
 refine TL.cons (TL.box (cs := [.int .i64 a1]) rfl rfl rfl rfl (fun b7 => ?_))
 refine TL.cons (TL.alloc (cs := [.bool false]) rfl rfl zr4 rfl (fun b8 => ?_))
 refine TL.nil ?_
 refine TQ.then_ ?_
 refine TC.seq ?_
 refine TC.seq ?_
 obtain ⟨j17, hj17, h⟩ := jn_no h
 refine TC.tail (fun a W => ∃ (x16 : Bool), j17 x16 = some r ∧ Fr (⟨35, List.map mark []⟩ : Nd) a [(2, .pointer (some ⟨b6, 0, none⟩)), (3, .pointer (some ⟨b7, 0, none⟩)), (4, .pointer (some ⟨b8, 0, none⟩)), (17, .bool x16)] ∧ Own G (Blk b6 [.int .i64 a0.f0, .slice A1 a0.f1.length c2] 36 :: Blk b7 [.int .i64 a1] 3 :: Blk b8 [.bool false] 4 :: Mk [] :: L) W) ?_ ?_
 ·
  rintro a W ⟨x16, h, hF, hO⟩
  rw [hj17] at h
  refine TQ.use ?_ hF hO
  clear hF hO
  refine TQ.then_ ?_
  refine TC.cond_b rfl h (fun hc19 h => ?_) (fun hc19 h => ?_)
  ·
   refine TC.seq ?_
   refine TC.region ?_
   refine TL.cons (TL.store 2 (ds := [.bool false]) (cs' := [.bool false]) (L' := (Blk b6 [.int .i64 a0.f0, .slice A1 a0.f1.length c2] 36 :: Blk b7 [.int .i64 a1] 3 :: Blk b8 [.bool false] 4 :: Mk [] :: L)) rfl fsz4 rfl rfl rfl rfl rfl (Nat.le_of_ble_eq_true rfl) rfl rfl ?_)
   refine TL.nil ?_
   refine TQ.then_ ?_
   refine TC.ret ?_
   refine TQ.thenR ?_
   refine TQ.finL (ds := List.map mark []) (.inl rfl) rfl (fun a_ hx20 => ?_)
   refine Lv.marks (L' := (Blk b6 [.int .i64 a0.f0, .slice A1 a0.f1.length c2] 36 :: Blk b7 [.int .i64 a1] 3 :: Blk b8 [.bool false] 4 :: Emp :: L)) 3 rfl rfl ?_
   obtain rfl := Option.some.inj h
   exact Lv.nil hx20 Try.results23 (.cell 2 rfl rfl agg4 rfl .nil) rfl (FRel.mk (Ls := []) [] 4 (Gd.le.refl _) rfl rfl rfl ⟨rfl, rfl, rfl⟩)
  ·
   refine TC.skip ?_
   refine TQ.then_ ?_
   refine TC.seq ?_
   refine TC.seq ?_
   refine TC.region ?_
   refine TL.cons (TO.val rfl rfl rfl (Val.fieldAddrB Try.underlying36 rfl fsz34 rfl rfl rfl) ?_)
   refine TL.cons (TO.val rfl rfl rfl (Val.loadB 0 agg34 rfl rfl rfl) ?_)
   refine TL.cons (TO.val rfl rfl rfl (Val.makeFunc (xs := []) (ys := [.pointer (some ⟨b6, 0, none⟩)]) rfl rfl) ?_)
   refine TL.cons (TO.inl (args := [.slice A1 a0.f1.length c2, .func (.func 47) #[] #[.pointer (some ⟨b6, 0, none⟩)]]) (e' := [(0, .slice A1 a0.f1.length c2), (1, .func (.func 47) #[] #[.pointer (some ⟨b6, 0, none⟩)])]) 9 rfl rfl hbd46 rfl rfl Try.func46 rfl Try.ntmps46 rfl rfl (Nat.le_of_ble_eq_true rfl) (fun a21 hf22 => ?_))
   refine TC.seq ?_
   refine TC.region ?_
   refine TL.cons (TO.val rfl rfl rfl (Val.assign rfl) ?_)
   refine TL.nil ?_
   refine TQ.then_ ?_
   refine TC.seq ?_
   refine TC.region ?_
   refine TL.cons (TO.val rfl rfl rfl (Val.move rfl) ?_)
   refine TL.cons (TO.val rfl rfl rfl (Val.move rfl) ?_)
   refine TL.cons (TO.inl (args := [.slice A1 a0.f1.length c2, .func (.func 47) #[] #[.pointer (some ⟨b6, 0, none⟩)]]) (e' := [(0, .slice A1 a0.f1.length c2), (1, .func (.func 47) #[] #[.pointer (some ⟨b6, 0, none⟩)])]) 19 rfl rfl hbd68 rfl rfl Try.func68 rfl Try.ntmps68 rfl rfl (Nat.le_of_ble_eq_true rfl) (fun a241 hf242 => ?_))
   obtain ⟨j387, hj387, h⟩ := jn_no h
   refine TC.after (fun en W => ∃ (x386 : Int), j387 x386 = some r ∧ en = .returned (.int .i64 x386) ∧ Own G (Blk b6 [.int .i64 a0.f0, .slice A1 a0.f1.length c2] 36 :: Blk b7 [.int .i64 a1] 3 :: Blk b8 [.bool false] 4 :: Mk [] :: L) W) ?_ ?_
   ·
    rintro en W ⟨x386, h, rfl, hO⟩
    rw [hj387] at h
    refine (After.mk hf242 rfl ?_) W hO
    clear hO
    refine TL.cons (TO.val rfl rfl rfl (Val.cmp rfl rfl run_geq) ?_)
    refine TL.cons (TO.val rfl rfl rfl (Val.assign rfl) ?_)
    refine TL.nil ?_
    refine TQ.then_ ?_
    refine TC.ret ?_
    refine TQ.fin (v := .bool (decide (0 ≤ x386))) (.inl rfl) rfl Try.results46 (.tmp rfl .nil) rfl (After.mk hf22 rfl ?_)
    refine TL.nil ?_
    refine TQ.then_ ?_
    refine TC.cond_p rfl h (fun hc389 h => ?_) (fun hc389 h => ?_)
    ·
     refine TC.seq ?_
     refine TC.region ?_
     refine TL.cons (TL.store 2 (ds := [.bool false]) (cs' := [.bool false]) (L' := (Blk b6 [.int .i64 a0.f0, .slice A1 a0.f1.length c2] 36 :: Blk b7 [.int .i64 a1] 3 :: Blk b8 [.bool false] 4 :: Mk [] :: L)) rfl fsz4 rfl rfl rfl rfl rfl (Nat.le_of_ble_eq_true rfl) rfl rfl ?_)
     refine TL.nil ?_
     refine TQ.then_ ?_
     refine TC.ret ?_
     refine TQ.thenR ?_
     refine TQ.finL (ds := List.map mark []) (.inl rfl) rfl (fun a_ hx390 => ?_)
     refine Lv.marks (L' := (Blk b6 [.int .i64 a0.f0, .slice A1 a0.f1.length c2] 36 :: Blk b7 [.int .i64 a1] 3 :: Blk b8 [.bool false] 4 :: Emp :: L)) 3 rfl rfl ?_
     obtain rfl := Option.some.inj h
     exact Lv.nil hx390 Try.results23 (.cell 2 rfl rfl agg4 rfl .nil) rfl (FRel.mk (Ls := []) [] 4 (Gd.le.refl _) rfl rfl rfl ⟨rfl, rfl, rfl⟩)
    ·
     refine TC.skip ?_
     refine TQ.then_ ?_
     refine TC.seq ?_
     refine TC.region ?_
     refine TL.cons (TL.alloc (cs := [.int .i64 0]) rfl rfl zr3 rfl (fun b391 => ?_))
     refine TL.cons (TL.store 0 (ds := [.int .i64 0]) (cs' := [.int .i64 0]) (L' := (Blk b391 [.int .i64 0] 3 :: Blk b6 [.int .i64 a0.f0, .slice A1 a0.f1.length c2] 36 :: Blk b7 [.int .i64 a1] 3 :: Blk b8 [.bool false] 4 :: Mk [] :: L)) rfl fsz3 rfl rfl rfl rfl rfl (Nat.le_of_ble_eq_true rfl) rfl rfl ?_)
     refine TL.nil ?_
     refine TQ.then_ ?_
     refine TC.seq ?_
     refine TC.seq ?_
     refine TC.region ?_
     refine TL.cons (TO.val rfl rfl rfl (Val.loadsB 1 (cs := [.int .i64 a0.f0, .slice A1 a0.f1.length c2]) agg36 fsz36 rfl rfl rfl rfl) ?_)
     refine TL.cons (TO.inl (args := [.agg #[.int .i64 a0.f0, .slice A1 a0.f1.length c2]]) (e' := [(0, .agg #[.int .i64 a0.f0, .slice A1 a0.f1.length c2])]) 4 rfl rfl hbd49 rfl rfl Try.func49 rfl Try.ntmps49 rfl rfl (Nat.le_of_ble_eq_true rfl) (fun a392 hf393 => ?_))
     refine TC.seq ?_
     refine TC.region ?_
     refine TL.cons (TL.box (cs := [.int .i64 a0.f0, .slice A1 a0.f1.length c2]) rfl rfl rfl rfl (fun b395 => ?_))
     refine TL.cons (TO.val rfl rfl rfl (Val.assign rfl) ?_)
     refine TL.nil ?_
     refine TQ.then_ ?_
     refine TC.seq ?_
     refine TC.region ?_
     refine TL.cons (TO.val rfl rfl rfl (Val.makeFunc (xs := []) (ys := [.pointer (some ⟨b395, 0, none⟩)]) rfl rfl) ?_)
     refine TL.cons (TO.val rfl rfl rfl (Val.assign rfl) ?_)
     refine TL.nil ?_
     refine TQ.then_ ?_
     refine TC.ret ?_
     refine TQ.fin (v := .func (.func 71) #[] #[.pointer (some ⟨b395, 0, none⟩)]) (.inl rfl) rfl Try.results49 (.tmp rfl .nil) rfl (After.mk hf393 rfl ?_)
     refine TL.nil ?_
     refine TQ.then_ ?_
     refine TC.block ?_
     refine TC.rangeFunc (e1 := fun l_ => [(0, .func (.yield l_) #[] #[]), (1, .pointer (some ⟨b395, 0, none⟩))]) 27 rfl hbd71 Try.func71 rfl Try.ntmps71 rfl (fun _ => rfl) (Nat.le_of_ble_eq_true rfl) (fun a965 R962 o963 o964 hp966 ha967 hb968 hf969 hf970 => ?_)
     refine TC.sel (Ls := [Ob o964 (.deferred (some [])), Mk [], Ob o963 (LoopO R962 .ready none), Blk b395 [.int .i64 a0.f0, .slice A1 a0.f1.length c2] 36, Blk b391 [.int .i64 0] 3, Blk b6 [.int .i64 a0.f0, .slice A1 a0.f1.length c2] 36, Blk b7 [.int .i64 a1] 3, Blk b8 [.bool false] 4]) [1, 7, 0, 2, 3, 4, 5, 6] 8 rfl rfl rfl ?_
     refine TC.two (ch := Mk (o964 :: [])) Mk.cons ?_
     refine TC.seq ?_
     refine TC.region ?_
     refine TL.cons (TO.val rfl rfl rfl (Val.fieldAddrB Try.underlying36 rfl fsz34 rfl rfl rfl) ?_)
     refine TL.cons (TO.val rfl rfl rfl (Val.loadB 2 agg34 rfl rfl rfl) ?_)
     refine TL.cons (TO.val rfl rfl rfl (Val.len Try.underlying34 rfl) ?_)
     refine TL.cons (TO.val rfl rfl rfl (Val.move rfl) ?_)
     refine TL.nil ?_
     refine TQ.then_ ?_
     obtain ⟨o1879, ho1879, ko1879⟩ := bind_no h
     clear h
     refine TC.tail (fun a W => ∃ (x1878 : Int), (.inr x1878) = o1879 ∧ Fr 27 a [] ∧ Own G (Blk b391 [.int .i64 x1878] 3 :: Blk b395 [.int .i64 a0.f0, .slice A1 a0.f1.length c2] 36 :: Blk b6 [.int .i64 a0.f0, .slice A1 a0.f1.length c2] 36 :: Blk b7 [.int .i64 a1] 3 :: Blk b8 [.bool false] 4 :: Mk (o964 :: []) :: Ob o963 (LoopO R962 .ready none) :: L) W) ?_ ?_
     ·
      rintro a W ⟨x1878, rfl, hF, hO⟩
      have h := ko1879
      clear ko1879 ho1879
      refine TQ.use ?_ hF hO
      clear hF hO
      refine TQ.fin (v := .tuple #[]) (.inr rfl) rfl Try.results71 .nil rfl (RangeP.normal (L' := (Blk b391 [.int .i64 x1878] 3 :: Blk b395 [.int .i64 a0.f0, .slice A1 a0.f1.length c2] 36 :: Blk b6 [.int .i64 a0.f0, .slice A1 a0.f1.length c2] 36 :: Blk b7 [.int .i64 a1] 3 :: Blk b8 [.bool false] 4 :: Mk (o964 :: []) :: Emp :: L)) 6 hf970 rfl rfl rfl ?_)
      refine TQ.inB ?_
      refine TQ.then_ ?_
      refine TC.seq ?_
      refine TC.region ?_
      refine TL.cons (TL.store 4 (ds := [.bool true]) (cs' := [.bool true]) (L' := (Blk b391 [.int .i64 x1878] 3 :: Blk b395 [.int .i64 a0.f0, .slice A1 a0.f1.length c2] 36 :: Blk b6 [.int .i64 a0.f0, .slice A1 a0.f1.length c2] 36 :: Blk b7 [.int .i64 a1] 3 :: Blk b8 [.bool true] 4 :: Mk (o964 :: []) :: Emp :: L)) rfl fsz4 rfl rfl rfl rfl rfl (Nat.le_of_ble_eq_true rfl) rfl rfl ?_)
      refine TL.nil ?_
      refine TQ.then_ ?_
      refine TC.ret ?_
      refine TQ.finL (ds := List.map mark (o964 :: [])) (.inl rfl) rfl (fun a_ hx2179 => ?_)
      refine Lv.marks (L' := (Blk b391 [.int .i64 x1878] 3 :: Blk b395 [.int .i64 a0.f0, .slice A1 a0.f1.length c2] 36 :: Blk b6 [.int .i64 a0.f0, .slice A1 a0.f1.length c2] 36 :: Blk b7 [.int .i64 a1] 3 :: Blk b8 [.bool true] 4 :: Emp :: Emp :: L)) 5 rfl rfl ?_
      obtain rfl := Option.some.inj h
      exact Lv.nil hx2179 Try.results23 (.cell 4 rfl rfl agg4 rfl .nil) rfl (FRel.mk (Ls := []) [] 7 (Gd.le.refl _) rfl rfl rfl ⟨rfl, rfl, rfl⟩)
     ·
      refine TC.block ?_
      intro a W hF hO
      have hS : ∃ (x1575 : Int) (x1576 : Int), code_Right.l0 a0 a1 (a0.f1.length + 1) x1575 x1576 = some o1879 ∧ Fr 27 a [(0, .func (.yield o963) #[] #[]), (8, .slice A1 a0.f1.length c2), (9, .int .i64 (a0.f1.length : Int)), (10, .int .i64 x1575)] ∧ Own G (Blk b391 [.int .i64 x1576] 3 :: Blk b395 [.int .i64 a0.f0, .slice A1 a0.f1.length c2] 36 :: Blk b6 [.int .i64 a0.f0, .slice A1 a0.f1.length c2] 36 :: Blk b7 [.int .i64 a1] 3 :: Blk b8 [.bool false] 4 :: Mk (o964 :: []) :: Ob o963 (LoopO R962 .ready none) :: L) W := by
       exact ⟨0, 0, ho1879, hF.sub ⟨rfl, rfl, rfl, rfl, trivial⟩, hO.selT (Ls := [Blk b391 [.int .i64 0] 3, Blk b395 [.int .i64 a0.f0, .slice A1 a0.f1.length c2] 36, Blk b6 [.int .i64 a0.f0, .slice A1 a0.f1.length c2] 36, Blk b7 [.int .i64 a1] 3, Blk b8 [.bool false] 4, Mk (o964 :: []), Ob o963 (LoopO R962 .ready none)]) [3, 2, 4, 5, 6, 0, 1] 7 rfl rfl rfl⟩
      clear hF hO ho1879
      refine TC.loop (fun n1880 a W => ∃ (x1575 : Int) (x1576 : Int), code_Right.l0 a0 a1 n1880 x1575 x1576 = some o1879 ∧ Fr 27 a [(0, .func (.yield o963) #[] #[]), (8, .slice A1 a0.f1.length c2), (9, .int .i64 (a0.f1.length : Int)), (10, .int .i64 x1575)] ∧ Own G (Blk b391 [.int .i64 x1576] 3 :: Blk b395 [.int .i64 a0.f0, .slice A1 a0.f1.length c2] 36 :: Blk b6 [.int .i64 a0.f0, .slice A1 a0.f1.length c2] 36 :: Blk b7 [.int .i64 a1] 3 :: Blk b8 [.bool false] 4 :: Mk (o964 :: []) :: Ob o963 (LoopO R962 .ready none) :: L) W) ?_ ?_ hS
      ·
       rintro a W ⟨x1575, x1576, h, hF, hO⟩
       exact none_no h
      ·
       clear hS
       rintro n1880 a W ⟨x1575, x1576, h, hF, hO⟩
       rw [code_Right.l0] at h
       refine TC.use ?_ hF hO
       clear hF hO
       refine TC.seq ?_
       refine TC.region ?_
       refine TL.cons (TO.val rfl rfl rfl (Val.cmp rfl rfl run_lss) ?_)
       refine TL.nil ?_
       refine TQ.then_ ?_
       refine TC.seq ?_
       refine TC.cond_p rfl h (fun hc2181 h => ?_) (fun hc2181 h => ?_)
       ·
        refine TC.skip ?_
        refine TQ.then_ ?_
        refine TC.seq ?_
        refine TC.block ?_
        refine TC.seq ?_
        refine TC.region ?_
        obtain ⟨y2387, hx2388, h⟩ := bind_no h
        obtain ⟨ad2389, cs2395, hA2390, hi2391, hj2392, hcl2393, hK2394⟩ := Rd.at hr3 hx2388
        obtain ⟨A2396, c2397, rfl, hr2398, hl2399⟩ := k28_openR hK2394
        refine TL.cons (TO.val rfl rfl rfl (Val.indexAddr Try.underlying34 fsz28 rfl hA2390 rfl hi2391 hj2392) ?_)
        refine TL.cons (TO.val rfl rfl rfl (Val.loadsS (cs := [.slice A2396 y2387.f0.length c2397, .int .i64 y2387.f1.f0, .int .i64 y2387.f1.f1, .int .i64 y2387.f1.f2, .int .i64 y2387.f1.f3]) agg28 fsz28 rfl rfl (Cl.sub (off := 0) (n := 5) hcl2393 rfl)) ?_)
        refine TL.cons (TL.alloc (cs := [.slice none 0 0, .int .i64 0, .int .i64 0, .int .i64 0, .int .i64 0]) rfl rfl zr28 rfl (fun b2400 => ?_))
        refine TL.cons (TL.store 0 (ds := [.slice A2396 y2387.f0.length c2397, .int .i64 y2387.f1.f0, .int .i64 y2387.f1.f1, .int .i64 y2387.f1.f2, .int .i64 y2387.f1.f3]) (cs' := [.slice A2396 y2387.f0.length c2397, .int .i64 y2387.f1.f0, .int .i64 y2387.f1.f1, .int .i64 y2387.f1.f2, .int .i64 y2387.f1.f3]) (L' := (Blk b2400 [.slice A2396 y2387.f0.length c2397, .int .i64 y2387.f1.f0, .int .i64 y2387.f1.f1, .int .i64 y2387.f1.f2, .int .i64 y2387.f1.f3] 28 :: Blk b391 [.int .i64 x1576] 3 :: Blk b395 [.int .i64 a0.f0, .slice A1 a0.f1.length c2] 36 :: Blk b6 [.int .i64 a0.f0, .slice A1 a0.f1.length c2] 36 :: Blk b7 [.int .i64 a1] 3 :: Blk b8 [.bool false] 4 :: Mk (o964 :: []) :: Ob o963 (LoopO R962 .ready none) :: L)) rfl fsz28 rfl rfl rfl rfl rfl (Nat.le_of_ble_eq_true rfl) rfl rfl ?_)
        refine TL.nil ?_
        refine TQ.then_ ?_
        refine TC.seq ?_
        refine TC.region ?_
        refine TL.cons (TO.val rfl rfl rfl (Val.fieldAddrB Try.underlying28 rfl fsz26 rfl rfl rfl) ?_)
        refine TL.cons (TO.val rfl rfl rfl (Val.loadB 0 agg26 rfl rfl rfl) ?_)
        refine TL.cons (TO.val rfl rfl rfl (Val.len Try.underlying26 rfl) ?_)
        refine TL.cons (TO.val rfl rfl rfl (Val.move rfl) ?_)
        refine TL.nil ?_
        refine TQ.then_ ?_
        obtain ⟨o2661, ho2661, ko2661⟩ := bind_no h
        clear h
        refine TC.tail (fun a W => ∃ (x2660 : Int), (.inr x2660) = o2661 ∧ Fr 27 a [(0, .func (.yield o963) #[] #[]), (8, .slice A1 a0.f1.length c2), (9, .int .i64 (a0.f1.length : Int)), (10, .int .i64 x1575)] ∧ Own G (Blk b391 [.int .i64 x2660] 3 :: Blk b395 [.int .i64 a0.f0, .slice A1 a0.f1.length c2] 36 :: Blk b6 [.int .i64 a0.f0, .slice A1 a0.f1.length c2] 36 :: Blk b7 [.int .i64 a1] 3 :: Blk b8 [.bool false] 4 :: Mk (o964 :: []) :: Ob o963 (LoopO R962 .ready none) :: L) W) ?_ ?_
        ·
         rintro a W ⟨x2660, rfl, hF, hO⟩
         have h := ko2661
         clear ko2661 ho2661
         refine TQ.use ?_ hF hO
         clear hF hO
         refine TQ.inB ?_
         refine TQ.then_ ?_
         refine TC.region ?_
         refine TL.cons (TO.val rfl rfl rfl (Val.cmp rfl rfl run_add) ?_)
         refine TL.cons (TO.val rfl rfl rfl (Val.move rfl) ?_)
         refine TL.nil ?_
         exact fun a W hF hO => ⟨IntKind.i64.wrap (x1575 + 1), x2660, h, hF.sub ⟨rfl, rfl, rfl, rfl, trivial⟩, hO.selT (Ls := [Blk b391 [.int .i64 x2660] 3, Blk b395 [.int .i64 a0.f0, .slice A1 a0.f1.length c2] 36, Blk b6 [.int .i64 a0.f0, .slice A1 a0.f1.length c2] 36, Blk b7 [.int .i64 a1] 3, Blk b8 [.bool false] 4, Mk (o964 :: []), Ob o963 (LoopO R962 .ready none)]) [0, 1, 2, 3, 4, 5, 6] 7 rfl rfl rfl⟩
        ·
         refine TC.block ?_
         intro a W hF hO
         have hS : ∃ (x2573 : Int) (x2574 : Int), code_Right.l1 a1 y2387 (y2387.f0.length + 1) x2573 x2574 = some o2661 ∧ Fr 27 a [(0, .func (.yield o963) #[] #[]), (8, .slice A1 a0.f1.length c2), (9, .int .i64 (a0.f1.length : Int)), (10, .int .i64 x1575), (15, .slice A2396 y2387.f0.length c2397), (16, .int .i64 (y2387.f0.length : Int)), (17, .int .i64 x2573)] ∧ Own G (Blk b391 [.int .i64 x2574] 3 :: Blk b395 [.int .i64 a0.f0, .slice A1 a0.f1.length c2] 36 :: Blk b6 [.int .i64 a0.f0, .slice A1 a0.f1.length c2] 36 :: Blk b7 [.int .i64 a1] 3 :: Blk b8 [.bool false] 4 :: Mk (o964 :: []) :: Ob o963 (LoopO R962 .ready none) :: L) W := by
          exact ⟨0, x1576, ho2661, hF.sub ⟨rfl, rfl, rfl, rfl, rfl, rfl, rfl, trivial⟩, hO.selT (Ls := [Blk b391 [.int .i64 x1576] 3, Blk b395 [.int .i64 a0.f0, .slice A1 a0.f1.length c2] 36, Blk b6 [.int .i64 a0.f0, .slice A1 a0.f1.length c2] 36, Blk b7 [.int .i64 a1] 3, Blk b8 [.bool false] 4, Mk (o964 :: []), Ob o963 (LoopO R962 .ready none)]) [1, 2, 3, 4, 5, 6, 7] 8 rfl rfl rfl⟩
         clear hF hO ho2661
         refine TC.loop (fun n2662 a W => ∃ (x2573 : Int) (x2574 : Int), code_Right.l1 a1 y2387 n2662 x2573 x2574 = some o2661 ∧ Fr 27 a [(0, .func (.yield o963) #[] #[]), (8, .slice A1 a0.f1.length c2), (9, .int .i64 (a0.f1.length : Int)), (10, .int .i64 x1575), (15, .slice A2396 y2387.f0.length c2397), (16, .int .i64 (y2387.f0.length : Int)), (17, .int .i64 x2573)] ∧ Own G (Blk b391 [.int .i64 x2574] 3 :: Blk b395 [.int .i64 a0.f0, .slice A1 a0.f1.length c2] 36 :: Blk b6 [.int .i64 a0.f0, .slice A1 a0.f1.length c2] 36 :: Blk b7 [.int .i64 a1] 3 :: Blk b8 [.bool false] 4 :: Mk (o964 :: []) :: Ob o963 (LoopO R962 .ready none) :: L) W) ?_ ?_ hS
         ·
          rintro a W ⟨x2573, x2574, h, hF, hO⟩
          exact none_no h
         ·
          clear hS
          rintro n2662 a W ⟨x2573, x2574, h, hF, hO⟩
          rw [code_Right.l1] at h
          refine TC.use ?_ hF hO
          clear hF hO
          refine TC.seq ?_
          refine TC.region ?_
          refine TL.cons (TO.val rfl rfl rfl (Val.cmp rfl rfl run_lss) ?_)
          refine TL.nil ?_
          refine TQ.then_ ?_
          refine TC.seq ?_
          refine TC.cond_p rfl h (fun hc2748 h => ?_) (fun hc2748 h => ?_)
          ·
           refine TC.skip ?_
           refine TQ.then_ ?_
           refine TC.seq ?_
           refine TC.block ?_
           refine TC.seq ?_
           refine TC.region ?_
           obtain ⟨y2794, hx2795, h⟩ := bind_no h
           obtain ⟨ad2796, cs2802, hA2797, hi2798, hj2799, hcl2800, hK2801⟩ := Rd.at hr2398 hx2795
           obtain ⟨A2803, c2804, rfl, hr2805, hl2806⟩ := k30_openR hK2801
           refine TL.cons (TO.val rfl rfl rfl (Val.indexAddr Try.underlying26 fsz30 rfl hA2797 rfl hi2798 hj2799) ?_)
           refine TL.cons (TO.val rfl rfl rfl (Val.loadsS (cs := [.int .i64 y2794.f0, .int .i64 y2794.f1, .int .i64 y2794.f2, .int .i64 y2794.f3, .int .i64 y2794.f4, .slice A2803 y2794.f5.length c2804]) agg30 fsz30 rfl rfl (Cl.sub (off := 0) (n := 6) hcl2800 rfl)) ?_)
           refine TL.cons (TL.alloc (cs := [.int .i64 0, .int .i64 0, .int .i64 0, .int .i64 0, .int .i64 0, .slice none 0 0]) rfl rfl zr30 rfl (fun b2807 => ?_))
           refine TL.cons (TL.store 0 (ds := [.int .i64 y2794.f0, .int .i64 y2794.f1, .int .i64 y2794.f2, .int .i64 y2794.f3, .int .i64 y2794.f4, .slice A2803 y2794.f5.length c2804]) (cs' := [.int .i64 y2794.f0, .int .i64 y2794.f1, .int .i64 y2794.f2, .int .i64 y2794.f3, .int .i64 y2794.f4, .slice A2803 y2794.f5.length c2804]) (L' := (Blk b2807 [.int .i64 y2794.f0, .int .i64 y2794.f1, .int .i64 y2794.f2, .int .i64 y2794.f3, .int .i64 y2794.f4, .slice A2803 y2794.f5.length c2804] 30 :: Blk b391 [.int .i64 x2574] 3 :: Blk b395 [.int .i64 a0.f0, .slice A1 a0.f1.length c2] 36 :: Blk b6 [.int .i64 a0.f0, .slice A1 a0.f1.length c2] 36 :: Blk b7 [.int .i64 a1] 3 :: Blk b8 [.bool false] 4 :: Mk (o964 :: []) :: Ob o963 (LoopO R962 .ready none) :: L)) rfl fsz30 rfl rfl rfl rfl rfl (Nat.le_of_ble_eq_true rfl) rfl rfl ?_)
           refine TL.nil ?_
           refine TQ.then_ ?_
           refine TC.seq ?_
           refine TC.region ?_
           refine TL.cons (TO.val rfl rfl rfl (Val.move rfl) ?_)
           refine TL.cons (TO.val rfl rfl rfl (Val.loadsB 0 (cs := [.int .i64 y2794.f0, .int .i64 y2794.f1, .int .i64 y2794.f2, .int .i64 y2794.f3, .int .i64 y2794.f4, .slice A2803 y2794.f5.length c2804]) agg30 fsz30 rfl rfl rfl rfl) ?_)
           refine TL.cons (TO.yield 7 rfl rfl rfl rfl hp966 ha967 hb968 rfl hf969 rfl rfl (fun a2808 hf2809 => ?_))
           refine TC.region ?_
           refine TL.cons (TL.alloc (cs := [.int .i64 0, .int .i64 0, .int .i64 0, .int .i64 0, .int .i64 0, .slice none 0 0]) rfl rfl zr30 rfl (fun b2810 => ?_))
           refine TL.cons (TL.store 0 (ds := [.int .i64 y2794.f0, .int .i64 y2794.f1, .int .i64 y2794.f2, .int .i64 y2794.f3, .int .i64 y2794.f4, .slice A2803 y2794.f5.length c2804]) (cs' := [.int .i64 y2794.f0, .int .i64 y2794.f1, .int .i64 y2794.f2, .int .i64 y2794.f3, .int .i64 y2794.f4, .slice A2803 y2794.f5.length c2804]) (L' := (Blk b2810 [.int .i64 y2794.f0, .int .i64 y2794.f1, .int .i64 y2794.f2, .int .i64 y2794.f3, .int .i64 y2794.f4, .slice A2803 y2794.f5.length c2804] 30 :: Blk b2807 [.int .i64 y2794.f0, .int .i64 y2794.f1, .int .i64 y2794.f2, .int .i64 y2794.f3, .int .i64 y2794.f4, .slice A2803 y2794.f5.length c2804] 30 :: Blk b391 [.int .i64 x2574] 3 :: Blk b395 [.int .i64 a0.f0, .slice A1 a0.f1.length c2] 36 :: Blk b6 [.int .i64 a0.f0, .slice A1 a0.f1.length c2] 36 :: Blk b7 [.int .i64 a1] 3 :: Blk b8 [.bool false] 4 :: Mk (o964 :: []) :: Ob o963 (LoopO R962 .ready none) :: L)) rfl fsz30 rfl rfl rfl rfl rfl (Nat.le_of_ble_eq_true rfl) rfl rfl ?_)
           refine TL.nil ?_
           refine TQ.begin (L' := (Blk b2810 [.int .i64 y2794.f0, .int .i64 y2794.f1, .int .i64 y2794.f2, .int .i64 y2794.f3, .int .i64 y2794.f4, .slice A2803 y2794.f5.length c2804] 30 :: Blk b2807 [.int .i64 y2794.f0, .int .i64 y2794.f1, .int .i64 y2794.f2, .int .i64 y2794.f3, .int .i64 y2794.f4, .slice A2803 y2794.f5.length c2804] 30 :: Blk b391 [.int .i64 x2574] 3 :: Blk b395 [.int .i64 a0.f0, .slice A1 a0.f1.length c2] 36 :: Blk b6 [.int .i64 a0.f0, .slice A1 a0.f1.length c2] 36 :: Blk b7 [.int .i64 a1] 3 :: Blk b8 [.bool false] 4 :: Mk (o964 :: []) :: Ob o963 (LoopO R962 .busy none) :: L)) 8 rfl rfl ?_
           refine TC.block ?_
           refine TC.seq ?_
           refine TC.region ?_
           refine TL.cons (TO.val rfl rfl rfl (Val.loadB 2 agg3 rfl rfl rfl) ?_)
           refine TL.cons (TO.val rfl rfl rfl (Val.cmp rfl rfl run_add) ?_)
           refine TL.cons (TL.store 2 (ds := [.int .i64 (IntKind.i64.wrap (x2574 + 1))]) (cs' := [.int .i64 (IntKind.i64.wrap (x2574 + 1))]) (L' := (Blk b2810 [.int .i64 y2794.f0, .int .i64 y2794.f1, .int .i64 y2794.f2, .int .i64 y2794.f3, .int .i64 y2794.f4, .slice A2803 y2794.f5.length c2804] 30 :: Blk b2807 [.int .i64 y2794.f0, .int .i64 y2794.f1, .int .i64 y2794.f2, .int .i64 y2794.f3, .int .i64 y2794.f4, .slice A2803 y2794.f5.length c2804] 30 :: Blk b391 [.int .i64 (IntKind.i64.wrap (x2574 + 1))] 3 :: Blk b395 [.int .i64 a0.f0, .slice A1 a0.f1.length c2] 36 :: Blk b6 [.int .i64 a0.f0, .slice A1 a0.f1.length c2] 36 :: Blk b7 [.int .i64 a1] 3 :: Blk b8 [.bool false] 4 :: Mk (o964 :: []) :: Ob o963 (LoopO R962 .busy none) :: L)) rfl fsz3 rfl rfl rfl rfl rfl (Nat.le_of_ble_eq_true rfl) rfl rfl ?_)
           refine TL.nil ?_
           refine TQ.then_ ?_
           refine TC.seq ?_
           obtain ⟨j2831, hj2831, h⟩ := jn_no h
           refine TC.tail (fun a W => ∃ (x2830 : Bool), j2831 x2830 = some o2661 ∧ Fr 35 a [(4, .pointer (some ⟨b8, 0, none⟩)), (34, .bool x2830)] ∧ Own G (Blk b2807 [.int .i64 y2794.f0, .int .i64 y2794.f1, .int .i64 y2794.f2, .int .i64 y2794.f3, .int .i64 y2794.f4, .slice A2803 y2794.f5.length c2804] 30 :: Blk b391 [.int .i64 (IntKind.i64.wrap (x2574 + 1))] 3 :: Blk b395 [.int .i64 a0.f0, .slice A1 a0.f1.length c2] 36 :: Blk b6 [.int .i64 a0.f0, .slice A1 a0.f1.length c2] 36 :: Blk b7 [.int .i64 a1] 3 :: Blk b8 [.bool false] 4 :: Mk (o964 :: []) :: Ob o963 (LoopO R962 .busy none) :: L) W) ?_ ?_
           ·
            rintro a W ⟨x2830, h, hF, hO⟩
            rw [hj2831] at h
            refine TQ.use ?_ hF hO
            clear hF hO
            refine TQ.then_ ?_
            refine TC.cond_b rfl h (fun hc2833 h => ?_) (fun hc2833 h => ?_)
            ·
             refine TC.seq ?_
             refine TC.region ?_
             refine TL.cons (TL.store 5 (ds := [.bool false]) (cs' := [.bool false]) (L' := (Blk b2807 [.int .i64 y2794.f0, .int .i64 y2794.f1, .int .i64 y2794.f2, .int .i64 y2794.f3, .int .i64 y2794.f4, .slice A2803 y2794.f5.length c2804] 30 :: Blk b391 [.int .i64 (IntKind.i64.wrap (x2574 + 1))] 3 :: Blk b395 [.int .i64 a0.f0, .slice A1 a0.f1.length c2] 36 :: Blk b6 [.int .i64 a0.f0, .slice A1 a0.f1.length c2] 36 :: Blk b7 [.int .i64 a1] 3 :: Blk b8 [.bool false] 4 :: Mk (o964 :: []) :: Ob o963 (LoopO R962 .busy none) :: L)) rfl fsz4 rfl rfl rfl rfl rfl (Nat.le_of_ble_eq_true rfl) rfl rfl ?_)
             refine TL.nil ?_
             refine TQ.then_ ?_
             refine TC.ret ?_
             refine TQ.inBR ?_
             refine TQ.roundR (L' := (Blk b2807 [.int .i64 y2794.f0, .int .i64 y2794.f1, .int .i64 y2794.f2, .int .i64 y2794.f3, .int .i64 y2794.f4, .slice A2803 y2794.f5.length c2804] 30 :: Blk b391 [.int .i64 (IntKind.i64.wrap (x2574 + 1))] 3 :: Blk b395 [.int .i64 a0.f0, .slice A1 a0.f1.length c2] 36 :: Blk b6 [.int .i64 a0.f0, .slice A1 a0.f1.length c2] 36 :: Blk b7 [.int .i64 a1] 3 :: Blk b8 [.bool false] 4 :: Mk (o964 :: []) :: Ob o963 (LoopO R962 .done (some .ret)) :: L)) 7 rfl rfl (After.mk hf2809 rfl ?_)
             refine TL.cons (TO.val rfl rfl rfl (Val.not_ rfl) ?_)
             refine TL.nil ?_
             refine TQ.then_ ?_
             refine TC.condT rfl ?_
             refine TC.ret ?_
             refine TQ.inBR ?_
             refine TQ.thenR ?_
             refine TQ.thenR ?_
             refine TQ.inBR ?_
             refine TQ.thenR ?_
             refine TQ.inBR ?_
             refine TQ.thenR ?_
             refine TQ.thenR ?_
             refine TQ.inBR ?_
             refine TQ.thenR ?_
             refine TQ.fin (v := .tuple #[]) (.inl rfl) rfl Try.results71 .nil rfl (RangeP.ret (L' := (Blk b2807 [.int .i64 y2794.f0, .int .i64 y2794.f1, .int .i64 y2794.f2, .int .i64 y2794.f3, .int .i64 y2794.f4, .slice A2803 y2794.f5.length c2804] 30 :: Blk b391 [.int .i64 (IntKind.i64.wrap (x2574 + 1))] 3 :: Blk b395 [.int .i64 a0.f0, .slice A1 a0.f1.length c2] 36 :: Blk b6 [.int .i64 a0.f0, .slice A1 a0.f1.length c2] 36 :: Blk b7 [.int .i64 a1] 3 :: Blk b8 [.bool false] 4 :: Mk (o964 :: []) :: Emp :: L)) 7 hf970 rfl rfl rfl ?_)
             refine TQ.inBR ?_
             refine TQ.thenR ?_
             refine TQ.finL (ds := List.map mark (o964 :: [])) (.inl rfl) rfl (fun a_ hx2834 => ?_)
             refine Lv.marks (L' := (Blk b2807 [.int .i64 y2794.f0, .int .i64 y2794.f1, .int .i64 y2794.f2, .int .i64 y2794.f3, .int .i64 y2794.f4, .slice A2803 y2794.f5.length c2804] 30 :: Blk b391 [.int .i64 (IntKind.i64.wrap (x2574 + 1))] 3 :: Blk b395 [.int .i64 a0.f0, .slice A1 a0.f1.length c2] 36 :: Blk b6 [.int .i64 a0.f0, .slice A1 a0.f1.length c2] 36 :: Blk b7 [.int .i64 a1] 3 :: Blk b8 [.bool false] 4 :: Emp :: Emp :: L)) 6 rfl rfl ?_
             obtain rfl := Option.some.inj h
             have h := ko2661
             obtain rfl := Option.some.inj h
             have h := ko1879
             obtain rfl := Option.some.inj h
             exact Lv.nil hx2834 Try.results23 (.cell 5 rfl rfl agg4 rfl .nil) rfl (FRel.mk (Ls := []) [] 8 (Gd.le.refl _) rfl rfl rfl ⟨rfl, rfl, rfl⟩)
            ·
             refine TC.skip ?_
             refine TQ.inB ?_
             refine TQ.roundN (L' := (Blk b2807 [.int .i64 y2794.f0, .int .i64 y2794.f1, .int .i64 y2794.f2, .int .i64 y2794.f3, .int .i64 y2794.f4, .slice A2803 y2794.f5.length c2804] 30 :: Blk b391 [.int .i64 (IntKind.i64.wrap (x2574 + 1))] 3 :: Blk b395 [.int .i64 a0.f0, .slice A1 a0.f1.length c2] 36 :: Blk b6 [.int .i64 a0.f0, .slice A1 a0.f1.length c2] 36 :: Blk b7 [.int .i64 a1] 3 :: Blk b8 [.bool false] 4 :: Mk (o964 :: []) :: Ob o963 (LoopO R962 .ready none) :: L)) 7 rfl rfl (After.mk hf2809 rfl ?_)
             refine TL.cons (TO.val rfl rfl rfl (Val.not_ rfl) ?_)
             refine TL.nil ?_
             refine TQ.then_ ?_
             refine TC.condF rfl ?_
             refine TC.skip ?_
             refine TQ.inB ?_
             refine TQ.then_ ?_
             refine TC.region ?_
             refine TL.cons (TO.val rfl rfl rfl (Val.cmp rfl rfl run_add) ?_)
             refine TL.cons (TO.val rfl rfl rfl (Val.move rfl) ?_)
             refine TL.nil ?_
             exact fun a W hF hO => ⟨IntKind.i64.wrap (x2573 + 1), IntKind.i64.wrap (x2574 + 1), h, hF.sub ⟨rfl, rfl, rfl, rfl, rfl, rfl, rfl, trivial⟩, hO.selT (Ls := [Blk b391 [.int .i64 (IntKind.i64.wrap (x2574 + 1))] 3, Blk b395 [.int .i64 a0.f0, .slice A1 a0.f1.length c2] 36, Blk b6 [.int .i64 a0.f0, .slice A1 a0.f1.length c2] 36, Blk b7 [.int .i64 a1] 3, Blk b8 [.bool false] 4, Mk (o964 :: []), Ob o963 (LoopO R962 .ready none)]) [1, 2, 3, 4, 5, 6, 7] 8 rfl rfl rfl⟩
           ·
            refine TC.region ?_
            refine TL.cons (TO.val rfl rfl rfl (Val.loadB 2 agg3 rfl rfl rfl) ?_)
            refine TL.cons (TO.val rfl rfl rfl (Val.cmp rfl rfl run_gtr) ?_)
            refine TL.cons (TO.val rfl rfl rfl (Val.move rfl) ?_)
            refine TK.split (p := 16384 < (IntKind.i64.wrap (x2574 + 1))) h (fun hg2835 h => ?_) (fun hg2835 h => ?_)
            ·
             have hk2836 : decide (16384 < (IntKind.i64.wrap (x2574 + 1))) = true := decide_eq_true hg2835
             refine TL.cons (TL.not (Wt.no rfl rfl rfl hk2836) rfl ?_)
             refine TL.cons (TL.not (Wt.no rfl rfl rfl hk2836) rfl ?_)
             refine TL.cons (TL.not (Wt.no rfl rfl rfl hk2836) rfl ?_)
             refine TL.cons (TL.not (Wt.no rfl rfl rfl hk2836) rfl ?_)
             refine TL.cons (TO.val rfl rfl rfl (Val.pickY rfl hk2836 rfl) ?_)
             refine TL.nil ?_
             exact fun a W hF hO => ⟨true, h, hF.sub ⟨rfl, rfl, trivial⟩, hO.selT (Ls := [Blk b2807 [.int .i64 y2794.f0, .int .i64 y2794.f1, .int .i64 y2794.f2, .int .i64 y2794.f3, .int .i64 y2794.f4, .slice A2803 y2794.f5.length c2804] 30, Blk b391 [.int .i64 (IntKind.i64.wrap (x2574 + 1))] 3, Blk b395 [.int .i64 a0.f0, .slice A1 a0.f1.length c2] 36, Blk b6 [.int .i64 a0.f0, .slice A1 a0.f1.length c2] 36, Blk b7 [.int .i64 a1] 3, Blk b8 [.bool false] 4, Mk (o964 :: []), Ob o963 (LoopO R962 .busy none)]) [1, 2, 3, 4, 5, 6, 7, 8] 9 rfl rfl rfl⟩
            ·
             have hk2837 : decide (16384 < (IntKind.i64.wrap (x2574 + 1))) = false := decide_eq_false hg2835
             refine TL.cons (TO.val (Wt.yes rfl rfl rfl hk2837) rfl rfl (Val.loadsB 0 (cs := [.int .i64 y2794.f0, .int .i64 y2794.f1, .int .i64 y2794.f2, .int .i64 y2794.f3, .int .i64 y2794.f4, .slice A2803 y2794.f5.length c2804]) agg30 fsz30 rfl rfl rfl rfl) ?_)
             refine TL.cons (TO.val (Wt.yes rfl rfl rfl hk2837) rfl rfl (Val.loadB 5 agg3 rfl rfl rfl) ?_)
             obtain ⟨y2838, hy2839, h⟩ := bind_no h
             refine TL.cons (TL.callV (Lin := []) (args := [.agg #[.int .i64 y2794.f0, .int .i64 y2794.f1, .int .i64 y2794.f2, .int .i64 y2794.f3, .int .i64 y2794.f4, .slice A2803 y2794.f5.length c2804], .int .i64 a1]) (Wt.yes rfl rfl rfl hk2837) rfl rfl hbd50 rfl rfl (code_RightOp.calls (a0 := y2794) (a1 := a1) hr2805 hl2806 hy2839) rfl ?_)
             rintro _ _ _ _ ⟨rfl, rfl, rfl⟩
             refine TL.cons (TO.val (Wt.yes rfl rfl rfl hk2837) rfl rfl (Val.not_ rfl) ?_)
             refine TL.cons (TO.val rfl rfl rfl (Val.pickN rfl hk2837 rfl) ?_)
             refine TL.nil ?_
             exact fun a W hF hO => ⟨(!y2838), h, hF.sub ⟨rfl, rfl, trivial⟩, hO.selT (Ls := [Blk b2807 [.int .i64 y2794.f0, .int .i64 y2794.f1, .int .i64 y2794.f2, .int .i64 y2794.f3, .int .i64 y2794.f4, .slice A2803 y2794.f5.length c2804] 30, Blk b391 [.int .i64 (IntKind.i64.wrap (x2574 + 1))] 3, Blk b395 [.int .i64 a0.f0, .slice A1 a0.f1.length c2] 36, Blk b6 [.int .i64 a0.f0, .slice A1 a0.f1.length c2] 36, Blk b7 [.int .i64 a1] 3, Blk b8 [.bool false] 4, Mk (o964 :: []), Ob o963 (LoopO R962 .busy none)]) [1, 2, 3, 4, 5, 6, 7, 8] 9 rfl rfl rfl⟩
          ·
           refine TC.exit ?_
           refine TQ.thenX ?_
           refine TQ.thenX ?_
           refine TQ.inBX ?_
           exact fun a W hF hO => ⟨x2574, Option.some.inj h, hF.sub ⟨rfl, rfl, rfl, rfl, trivial⟩, hO.selT (Ls := [Blk b391 [.int .i64 x2574] 3, Blk b395 [.int .i64 a0.f0, .slice A1 a0.f1.length c2] 36, Blk b6 [.int .i64 a0.f0, .slice A1 a0.f1.length c2] 36, Blk b7 [.int .i64 a1] 3, Blk b8 [.bool false] 4, Mk (o964 :: []), Ob o963 (LoopO R962 .ready none)]) [0, 1, 2, 3, 4, 5, 6] 7 rfl rfl rfl⟩
       ·
        refine TC.exit ?_
        refine TQ.thenX ?_
        refine TQ.thenX ?_
        refine TQ.inBX ?_
        exact fun a W hF hO => ⟨x1576, Option.some.inj h, hF.sub trivial, hO.selT (Ls := [Blk b391 [.int .i64 x1576] 3, Blk b395 [.int .i64 a0.f0, .slice A1 a0.f1.length c2] 36, Blk b6 [.int .i64 a0.f0, .slice A1 a0.f1.length c2] 36, Blk b7 [.int .i64 a1] 3, Blk b8 [.bool false] 4, Mk (o964 :: []), Ob o963 (LoopO R962 .ready none)]) [0, 1, 2, 3, 4, 5, 6] 7 rfl rfl rfl⟩
   ·
    refine TC.seq ?_
    refine TC.region ?_
    refine TL.cons (TO.val rfl rfl rfl (Val.assign rfl) ?_)
    refine TL.nil ?_
    refine TQ.then_ ?_
    refine TC.seq ?_
    refine TC.seq ?_
    refine TC.region ?_
    refine TL.cons (TO.val rfl rfl rfl (Val.move rfl) ?_)
    refine TL.cons (TO.val rfl rfl rfl (Val.len Try.underlying34 rfl) ?_)
    refine TL.cons (TO.val rfl rfl rfl (Val.move rfl) ?_)
    refine TL.nil ?_
    refine TQ.then_ ?_
    obtain ⟨o2986, ho2986, ko2986⟩ := bind_no h
    clear h
    refine TC.tail (fun a W => (.inr ()) = o2986 ∧ Fr 19 a [] ∧ Own G (Blk b6 [.int .i64 a0.f0, .slice A1 a0.f1.length c2] 36 :: Blk b7 [.int .i64 a1] 3 :: Blk b8 [.bool false] 4 :: Mk [] :: L) W) ?_ ?_
    ·
     rintro a W ⟨rfl, hF, hO⟩
     have h := ko2986
     clear ko2986 ho2986
     refine TQ.use ?_ hF hO
     clear hF hO
     refine TQ.then_ ?_
     refine TC.seq ?_
     refine TC.region ?_
     refine TL.cons (TO.val rfl rfl rfl (Val.assign rfl) ?_)
     refine TL.nil ?_
     refine TQ.then_ ?_
     refine TC.ret ?_
     exact TQ.fin (v := .int .i64 (-1)) (.inl rfl) rfl Try.results68 (.tmp rfl .nil) rfl (fun W hO => ⟨(-1), h, rfl, hO.selT (Ls := [Blk b6 [.int .i64 a0.f0, .slice A1 a0.f1.length c2] 36, Blk b7 [.int .i64 a1] 3, Blk b8 [.bool false] 4, Mk []]) [0, 1, 2, 3] 4 rfl rfl rfl⟩)
    ·
     refine TC.block ?_
     intro a W hF hO
     have hS : ∃ (x2937 : Int), code_Right.l2 a0 j387 (a0.f1.length + 1) x2937 = some o2986 ∧ Fr 19 a [(0, .slice A1 a0.f1.length c2), (1, .func (.func 47) #[] #[.pointer (some ⟨b6, 0, none⟩)]), (7, .int .i64 (a0.f1.length : Int)), (8, .int .i64 x2937)] ∧ Own G (Blk b6 [.int .i64 a0.f0, .slice A1 a0.f1.length c2] 36 :: Blk b7 [.int .i64 a1] 3 :: Blk b8 [.bool false] 4 :: Mk [] :: L) W := by
      exact ⟨0, ho2986, hF.sub ⟨rfl, rfl, rfl, rfl, trivial⟩, hO.selT (Ls := [Blk b6 [.int .i64 a0.f0, .slice A1 a0.f1.length c2] 36, Blk b7 [.int .i64 a1] 3, Blk b8 [.bool false] 4, Mk []]) [0, 1, 2, 3] 4 rfl rfl rfl⟩
     clear hF hO ho2986
     refine TC.loop (fun n2987 a W => ∃ (x2937 : Int), code_Right.l2 a0 j387 n2987 x2937 = some o2986 ∧ Fr 19 a [(0, .slice A1 a0.f1.length c2), (1, .func (.func 47) #[] #[.pointer (some ⟨b6, 0, none⟩)]), (7, .int .i64 (a0.f1.length : Int)), (8, .int .i64 x2937)] ∧ Own G (Blk b6 [.int .i64 a0.f0, .slice A1 a0.f1.length c2] 36 :: Blk b7 [.int .i64 a1] 3 :: Blk b8 [.bool false] 4 :: Mk [] :: L) W) ?_ ?_ hS
     ·
      rintro a W ⟨x2937, h, hF, hO⟩
      exact none_no h
     ·
      clear hS
      rintro n2987 a W ⟨x2937, h, hF, hO⟩
      rw [code_Right.l2] at h
      refine TC.use ?_ hF hO
      clear hF hO
      refine TC.seq ?_
      refine TC.region ?_
      refine TL.cons (TO.val rfl rfl rfl (Val.cmp rfl rfl run_lss) ?_)
      refine TL.nil ?_
      refine TQ.then_ ?_
      refine TC.seq ?_
      refine TC.cond_p rfl h (fun hc3037 h => ?_) (fun hc3037 h => ?_)
      ·
       refine TC.skip ?_
       refine TQ.then_ ?_
       refine TC.seq ?_
       refine TC.block ?_
       refine TC.seq ?_
       refine TC.region ?_
       refine TL.cons (TO.val rfl rfl rfl (Val.move rfl) ?_)
       refine TL.cons (TO.val rfl rfl rfl (Val.assign rfl) ?_)
       refine TL.nil ?_
       refine TQ.then_ ?_
       refine TC.seq ?_
       refine TC.region ?_
       refine TL.cons (TO.val rfl rfl rfl (Val.move rfl) ?_)
       refine TL.cons (TO.val rfl rfl rfl (Val.move rfl) ?_)
       refine TL.cons (TO.val rfl rfl rfl (Val.move rfl) ?_)
       obtain ⟨y3061, hx3062, h⟩ := bind_no h
       obtain ⟨ad3063, cs3069, hA3064, hi3065, hj3066, hcl3067, hK3068⟩ := Rd.at hr3 hx3062
       obtain ⟨A3070, c3071, rfl, hr3072, hl3073⟩ := k28_openR hK3068
       refine TL.cons (TO.val rfl rfl rfl (Val.indexAddr Try.underlying34 fsz28 rfl hA3064 rfl hi3065 hj3066) ?_)
       refine TL.cons (TO.val rfl rfl rfl (Val.loadsS (cs := [.slice A3070 y3061.f0.length c3071, .int .i64 y3061.f1.f0, .int .i64 y3061.f1.f1, .int .i64 y3061.f1.f2, .int .i64 y3061.f1.f3]) agg28 fsz28 rfl rfl (Cl.sub (off := 0) (n := 5) hcl3067 rfl)) ?_)
       refine TL.cons (TO.inl (args := [.agg #[.slice A3070 y3061.f0.length c3071, .int .i64 y3061.f1.f0, .int .i64 y3061.f1.f1, .int .i64 y3061.f1.f2, .int .i64 y3061.f1.f3], .pointer (some ⟨b6, 0, none⟩)]) (e' := [(0, .agg #[.slice A3070 y3061.f0.length c3071, .int .i64 y3061.f1.f0, .int .i64 y3061.f1.f1, .int .i64 y3061.f1.f2, .int .i64 y3061.f1.f3]), (1, .pointer (some ⟨b6, 0, none⟩))]) 11 rfl rfl hbd47 rfl rfl Try.func47 rfl Try.ntmps47 rfl rfl (Nat.le_of_ble_eq_true rfl) (fun a3074 hf3075 => ?_))
       refine TC.seq ?_
       refine TC.region ?_
       refine TL.cons (TL.box (cs := [.slice A3070 y3061.f0.length c3071, .int .i64 y3061.f1.f0, .int .i64 y3061.f1.f1, .int .i64 y3061.f1.f2, .int .i64 y3061.f1.f3]) rfl rfl rfl rfl (fun b3079 => ?_))
       refine TL.cons (TO.val rfl rfl rfl (Val.assign rfl) ?_)
       refine TL.nil ?_
       refine TQ.then_ ?_
       refine TC.seq ?_
       refine TC.region ?_
       refine TL.cons (TO.val rfl rfl rfl (Val.fieldAddrB Try.underlying28 rfl fsz25 rfl rfl rfl) ?_)
       refine TL.cons (TO.val rfl rfl rfl (Val.loadsB 0 (cs := [.int .i64 y3061.f1.f0, .int .i64 y3061.f1.f1, .int .i64 y3061.f1.f2, .int .i64 y3061.f1.f3]) agg25 fsz25 rfl rfl rfl rfl) ?_)
       refine TL.cons (TO.val rfl rfl rfl (Val.fieldAddrB Try.underlying36 rfl fsz34 rfl rfl rfl) ?_)
       refine TL.cons (TO.val rfl rfl rfl (Val.loadB 1 agg34 rfl rfl rfl) ?_)
       refine TL.cons (TO.val rfl rfl rfl (Val.len Try.underlying34 rfl) ?_)
       obtain ⟨y3080, hy3081, h⟩ := bind_no h
       refine TL.cons (TL.callV (Lin := []) (args := [.agg #[.int .i64 y3061.f1.f0, .int .i64 y3061.f1.f1, .int .i64 y3061.f1.f2, .int .i64 y3061.f1.f3], .int .i64 (a0.f1.length : Int)]) rfl rfl rfl hbd48 rfl rfl (code_rightTerm.calls (a0 := y3061.f1) (a1 := (a0.f1.length : Int)) hy3081) rfl ?_)
       rintro _ _ _ _ ⟨rfl, rfl, rfl⟩
       refine TL.cons (TO.val rfl rfl rfl (Val.not_ rfl) ?_)
       refine TL.cons (TO.val rfl rfl rfl (Val.assign rfl) ?_)
       refine TL.nil ?_
       refine TQ.then_ ?_
       refine TC.ret ?_
       refine TQ.fin (v := .bool (!y3080)) (.inl rfl) rfl Try.results47 (.tmp rfl .nil) rfl (After.mk hf3075 rfl ?_)
       refine TL.nil ?_
       refine TQ.then_ ?_
       refine TC.cond_b rfl h (fun hc3083 h => ?_) (fun hc3083 h => ?_)
       ·
        refine TC.seq ?_
        refine TC.region ?_
        refine TL.cons (TO.val rfl rfl rfl (Val.move rfl) ?_)
        refine TL.cons (TO.val rfl rfl rfl (Val.assign rfl) ?_)
        refine TL.nil ?_
        refine TQ.then_ ?_
        refine TC.ret ?_
        refine TQ.inBR ?_
        refine TQ.thenR ?_
        refine TQ.thenR ?_
        refine TQ.inBR ?_
        refine TQ.thenR ?_
        refine TQ.thenR ?_
        obtain ⟨q_, hq_, h⟩ := bind_no h
        obtain rfl := Option.some.inj h
        have h := ko2986
        obtain rfl := Option.some.inj h
        have h := hq_
        clear hq_
        exact TQ.fin (v := .int .i64 x2937) (.inl rfl) rfl Try.results68 (.tmp rfl .nil) rfl (fun W hO => ⟨x2937, h, rfl, hO.selT (Ls := [Blk b6 [.int .i64 a0.f0, .slice A1 a0.f1.length c2] 36, Blk b7 [.int .i64 a1] 3, Blk b8 [.bool false] 4, Mk []]) [1, 2, 3, 4] 5 rfl rfl rfl⟩)
       ·
        refine TC.skip ?_
        refine TQ.inB ?_
        refine TQ.then_ ?_
        refine TC.region ?_
        refine TL.cons (TO.val rfl rfl rfl (Val.cmp rfl rfl run_add) ?_)
        refine TL.cons (TO.val rfl rfl rfl (Val.move rfl) ?_)
        refine TL.nil ?_
        exact fun a W hF hO => ⟨IntKind.i64.wrap (x2937 + 1), h, hF.sub ⟨rfl, rfl, rfl, rfl, trivial⟩, hO.selT (Ls := [Blk b6 [.int .i64 a0.f0, .slice A1 a0.f1.length c2] 36, Blk b7 [.int .i64 a1] 3, Blk b8 [.bool false] 4, Mk []]) [1, 2, 3, 4] 5 rfl rfl rfl⟩
      ·
       refine TC.exit ?_
       refine TQ.thenX ?_
       refine TQ.thenX ?_
       refine TQ.inBX ?_
       exact fun a W hF hO => ⟨Option.some.inj h, hF.sub trivial, hO.selT (Ls := [Blk b6 [.int .i64 a0.f0, .slice A1 a0.f1.length c2] 36, Blk b7 [.int .i64 a1] 3, Blk b8 [.bool false] 4, Mk []]) [0, 1, 2, 3] 4 rfl rfl rfl⟩
 ·
  refine TC.region ?_
  refine TL.cons (TO.val rfl rfl rfl (Val.fieldAddrB Try.underlying36 rfl fsz34 rfl rfl rfl) ?_)
  refine TL.cons (TO.val rfl rfl rfl (Val.loadB 2 agg34 rfl rfl rfl) ?_)
  refine TL.cons (TO.val rfl rfl rfl (Val.len Try.underlying34 rfl) ?_)
  obtain ⟨y3084, hy3085, h⟩ := bind_no h
  refine TL.cons (TL.callV (Lin := []) (args := [.int .i64 (a0.f1.length : Int), .int .i64 1, .int .i64 4096]) rfl rfl rfl hbd45 rfl rfl (code_within.calls (a0 := (a0.f1.length : Int)) (a1 := 1) (a2 := 4096) hy3085) rfl ?_)
  rintro _ _ _ _ ⟨rfl, rfl, rfl⟩
  refine TL.cons (TO.val rfl rfl rfl (Val.not_ rfl) ?_)
  refine TL.cons (TO.val rfl rfl rfl (Val.move rfl) ?_)
  refine TK.split (p := (!y3084) = true) h (fun hg3086 h => ?_) (fun hg3086 h => ?_)
  ·
   have hk3087 : (!y3084) = true := hg3086
   refine TL.cons (TL.not (Wt.no rfl rfl rfl hk3087) rfl ?_)
   refine TL.cons (TL.not (Wt.no rfl rfl rfl hk3087) rfl ?_)
   refine TL.cons (TL.not (Wt.no rfl rfl rfl hk3087) rfl ?_)
   refine TL.cons (TL.not (Wt.no rfl rfl rfl hk3087) rfl ?_)
   refine TL.cons (TO.val rfl rfl rfl (Val.pickY rfl hk3087 rfl) ?_)
   refine TL.nil ?_
   exact fun a W hF hO => ⟨true, h, hF.sub ⟨rfl, rfl, rfl, rfl, trivial⟩, hO.selT (Ls := [Blk b6 [.int .i64 a0.f0, .slice A1 a0.f1.length c2] 36, Blk b7 [.int .i64 a1] 3, Blk b8 [.bool false] 4, Mk []]) [2, 1, 0, 3] 4 rfl rfl rfl⟩
  ·
   have hk3088 : (!y3084) = false := (by simpa using hg3086)
   refine TL.cons (TO.val (Wt.yes rfl rfl rfl hk3088) rfl rfl (Val.fieldAddrB Try.underlying36 rfl fsz3 rfl rfl rfl) ?_)
   refine TL.cons (TO.val (Wt.yes rfl rfl rfl hk3088) rfl rfl (Val.loadB 2 agg3 rfl rfl rfl) ?_)
   obtain ⟨y3089, hy3090, h⟩ := bind_no h
   refine TL.cons (TL.callV (Lin := []) (args := [.int .i64 a0.f0, .int .i64 0, .int .i64 8]) (Wt.yes rfl rfl rfl hk3088) rfl rfl hbd45 rfl rfl (code_within.calls (a0 := a0.f0) (a1 := 0) (a2 := 8) hy3090) rfl ?_)
   rintro _ _ _ _ ⟨rfl, rfl, rfl⟩
   refine TL.cons (TO.val (Wt.yes rfl rfl rfl hk3088) rfl rfl (Val.not_ rfl) ?_)
   refine TL.cons (TO.val rfl rfl rfl (Val.pickN rfl hk3088 rfl) ?_)
   refine TL.nil ?_
   exact fun a W hF hO => ⟨(!y3089), h, hF.sub ⟨rfl, rfl, rfl, rfl, trivial⟩, hO.selT (Ls := [Blk b6 [.int .i64 a0.f0, .slice A1 a0.f1.length c2] 36, Blk b7 [.int .i64 a1] 3, Blk b8 [.bool false] 4, Mk []]) [2, 1, 0, 3] 4 rfl rfl rfl⟩
end Go.Proofs.Ytmacdhkfgoahcaa.Sy
set_option linter.unusedVariables false
set_option linter.unusedSimpArgs false
namespace Go.Proofs.Ytmacdhkfgoahcaa.Sy
open Go Go.RowKit Go.Proofs.YtmacdhkfgoahcaaW.PrintWords Go.Proofs.Ytmacdhkfgoahcaa.SyO
/-! #### Walks by number -/
theorem drop_nil {α : Type} {l : List α} {i : Nat} (h : l.drop i = []) : ¬ ((i : Int) < (l.length : Int)) := by
  have := List.drop_eq_nil_iff.1 h; omega
theorem drop_cons {α : Type} {l r : List α} {y : α} {i : Nat} (h : l.drop i = y :: r) : (i : Int) < (l.length : Int) ∧ at? l (i : Int) = some y ∧ l.drop (i + 1) = r ∧ y ∈ l := by
  have hl : i < l.length := by
    apply Classical.byContradiction; intro hn
    rw [List.drop_eq_nil_of_le (by omega)] at h; cases h
  rw [List.drop_eq_getElem_cons hl] at h
  injection h with h1 h2
  refine ⟨by omega, ?_, h2, by rw [← h1]; exact List.getElem_mem hl⟩
  unfold at?
  rw [if_pos (by omega)]
  simp [List.getElem?_eq_getElem hl, h1]
theorem w64 {n : Int} (h0 : -9223372036854775808 ≤ n) (h1 : n ≤ 9223372036854775807) : IntKind.i64.wrap n = n := by
  rw [IntKind.wrap_i64]; omega
theorem wsucc {i : Nat} (h : i ≤ 140737488355328) : IntKind.i64.wrap ((i : Int) + 1) = ((i + 1 : Nat) : Int) := by
  rw [w64 (by omega) (by omega)]; omega
theorem i64_of_wf {n : Int} (h : (Lit.int .i64 n).wf = true) : -9223372036854775808 ≤ n ∧ n ≤ 9223372036854775807 := by
  simp [Lit.wf, IntKind.min, IntKind.max, IntKind.signed, IntKind.bits] at h
  omega
/-! #### Few -/
def opsN (l : List S28) : Nat := (l.map (·.f0.length)).sum
theorem few_l1 {t : S36} {j : Nat} {y : S28} (hy : at? t.f1 (j : Int) = some y) (hl : y.f0.length ≤ 140737488355328) :
    ∀ (ys : List S30) (n i : Nat), y.f0.drop i = ys → ys.length < n → ∃ r, swagelaw14_Few.l1 t j n i = some r ∧ (r = .inl (.inl false) ∨ r = .inr () ∧ ∀ k o, ys[k]? = some o → i + k < 300 → o.f5.length ≤ 20) := by
  intro ys
  induction ys with
  | nil =>
    intro n i hdr hn
    obtain ⟨n, rfl⟩ : ∃ m, n = m + 1 := ⟨n - 1, by simp at hn; omega⟩
    rw [swagelaw14_Few.l1]
    simp only [jn, hy, Option.bind_some]
    rw [if_neg (drop_nil hdr)]
    exact ⟨_, rfl, .inr ⟨rfl, fun k o hk => by simp at hk⟩⟩
  | cons o ys ih =>
    intro n i hdr hn
    obtain ⟨n, rfl⟩ : ∃ m, n = m + 1 := ⟨n - 1, by simp at hn; omega⟩
    obtain ⟨h1, h2, h3, h4⟩ := drop_cons hdr
    rw [swagelaw14_Few.l1]
    simp only [jn, hy, h2, Option.bind_some]
    rw [if_pos h1]
    by_cases hi : i < 300
    · rw [if_pos (decide_eq_true (by omega))]
      by_cases ha : (20 : Int) < (o.f5.length : Int)
      · rw [if_pos ha]
        exact ⟨_, rfl, .inl rfl⟩
      · rw [if_neg ha, wsucc (by omega)]
        obtain ⟨r, r1, r2⟩ := ih n (i + 1) h3 (by simp at hn; omega)
        refine ⟨r, r1, ?_⟩
        rcases r2 with r2 | ⟨r2, r3⟩
        · exact .inl r2
        · refine .inr ⟨r2, fun k o' hk hlt => ?_⟩
          cases k with
          | zero => simp at hk; subst hk; omega
          | succ k => exact r3 k o' (by simpa using hk) (by omega)
    · rw [if_neg (by simp; omega)]
      refine ⟨_, rfl, .inr ⟨rfl, fun k o' hk hlt => by omega⟩⟩
theorem few_l0 {t : S36} (hl : t.f1.length ≤ 140737488355328) (hk : ∀ y ∈ t.f1, y.f0.length ≤ 140737488355328) :
    ∀ (ys : List S28) (n i x : Nat), t.f1.drop i = ys → ys.length < n → x ≤ i * 140737488355328 →
      ∃ r, swagelaw14_Few.l0 t n x i = some r ∧ (r = .inl false ∨ ∃ z : Int, r = .inr z ∧ (∀ k y, ys[k]? = some y → i + k < 100 → ∀ j o, y.f0[j]? = some o → j < 300 → o.f5.length ≤ 20) ∧ (i + ys.length ≤ 100 → z = ((x + opsN ys : Nat) : Int))) := by
  intro ys
  induction ys with
  | nil =>
    intro n i x hdr hn hx
    obtain ⟨n, rfl⟩ : ∃ m, n = m + 1 := ⟨n - 1, by simp at hn; omega⟩
    rw [swagelaw14_Few.l0]
    simp only [jn]
    rw [if_neg (drop_nil hdr)]
    exact ⟨_, rfl, .inr ⟨_, rfl, fun k o hk => by simp at hk, fun _ => by simp [opsN]⟩⟩
  | cons y ys ih =>
    intro n i x hdr hn hx
    obtain ⟨n, rfl⟩ : ∃ m, n = m + 1 := ⟨n - 1, by simp at hn; omega⟩
    obtain ⟨h1, h2, h3, h4⟩ := drop_cons hdr
    have hky := hk y h4
    rw [swagelaw14_Few.l0]
    simp only [jn]
    rw [if_pos h1]
    by_cases hi : i < 100
    · rw [if_pos (decide_eq_true (by omega)), h2]
      simp only [Option.bind_some]
      obtain ⟨r, r1, r2⟩ := few_l1 h2 hky y.f0 (y.f0.length + 1) 0 (by simp) (by omega)
      have r1' : swagelaw14_Few.l1 t i (y.f0.length + 1) 0 = some r := r1
      have e0 : ((some y).elim 0 (fun vy2231 : S28 => vy2231.f0.length) + 1) = y.f0.length + 1 := rfl
      rw [e0, r1']
      simp only [Option.bind_some]
      rcases r2 with rfl | ⟨rfl, r3⟩
      · exact ⟨_, rfl, .inl rfl⟩
      · have e : IntKind.i64.wrap ((x : Int) + (y.f0.length : Int)) = ((x + y.f0.length : Nat) : Int) := by rw [w64 (by omega) (by omega)]; omega
        simp only []
        rw [e, wsucc (by omega)]
        obtain ⟨q, q1, q2⟩ := ih n (i + 1) (x + y.f0.length) h3 (by simp at hn; omega) (by omega)
        refine ⟨q, q1, ?_⟩
        rcases q2 with q2 | ⟨z, q2, q3, q4⟩
        · exact .inl q2
        · refine .inr ⟨z, q2, fun k y' hk' hlt => ?_, fun hlen => ?_⟩
          · cases k with
            | zero =>
              simp at hk'; subst hk'
              intro j o hj hj3
              exact r3 j o hj (by omega)
            | succ k => exact q3 k y' (by simpa using hk') (by omega)
          · rw [q4 (by simp at hlen; omega)]
            simp only [opsN, List.map_cons, List.sum_cons]; omega
    · rw [if_neg (by simp; omega)]
      exact ⟨_, rfl, .inr ⟨_, rfl, fun k y' hk' hlt => by omega, fun hlen => by simp at hlen; omega⟩⟩
theorem opsN_mem {l : List S28} {y : S28} (h : y ∈ l) : y.f0.length ≤ opsN l := by
  induction l with
  | nil => cases h
  | cons x r ih =>
    rcases List.mem_cons.1 h with rfl | h
    · simp [opsN]
    · have := ih h; simp only [opsN, List.map_cons, List.sum_cons] at this ⊢; omega
/-- What Few lets in. -/
def Fewp (t : S36) : Prop := t.f1.length ≤ 40 ∧ opsN t.f1 ≤ 250 ∧ ∀ y ∈ t.f1, y.f0.length ≤ 250 ∧ ∀ o ∈ y.f0, o.f5.length ≤ 20
theorem few_f {t : S36} (h : ok36 t) : ∃ b, swagelaw14_Few.f t = some b ∧ (b = true → Fewp t) := by
  have hl : t.f1.length ≤ 140737488355328 := by have := h.2.1; omega
  have hk : ∀ y ∈ t.f1, y.f0.length ≤ 140737488355328 := fun y hy => by have := (h.2.2 y hy).1.1; omega
  obtain ⟨r, r1, r2⟩ := few_l0 hl hk t.f1 (t.f1.length + 1) 0 0 (by simp) (by omega) (by omega)
  have r1' : swagelaw14_Few.l0 t (t.f1.length + 1) 0 0 = some r := r1
  unfold swagelaw14_Few.f
  rw [r1']
  simp only [Option.bind_some]
  rcases r2 with rfl | ⟨z, rfl, r3, r4⟩
  · exact ⟨false, rfl, fun h => by cases h⟩
  · by_cases h40 : (t.f1.length : Int) ≤ 40
    · refine ⟨decide (z ≤ 250), by simp [h40], fun hz => ?_⟩
      have hz : z ≤ 250 := of_decide_eq_true hz
      have e := r4 (by omega)
      have ho : opsN t.f1 ≤ 250 := by omega
      refine ⟨by omega, ho, fun y hy => ?_⟩
      have h1 := opsN_mem hy
      refine ⟨by omega, fun o hox => ?_⟩
      obtain ⟨k, hk'⟩ := List.getElem?_of_mem hy
      obtain ⟨j, hj⟩ := List.getElem?_of_mem hox
      have hkl := (List.getElem?_eq_some_iff.1 hk').1
      have hjl := (List.getElem?_eq_some_iff.1 hj).1
      exact r3 k y hk' (by omega) j o hj (by omega)
    · exact ⟨false, by simp [h40], fun h => by cases h⟩
/-! #### Right -/
abbrev Rg (n : Int) : Prop := 1 ≤ n ∧ n ≤ 4096
/-- A right operation. -/
def Ro (o : S30) : Prop :=
  (o.f0 = 1 ∧ Rg o.f1 ∧ o.f2 = 0 ∧ o.f3 = 0 ∧ o.f5 = []) ∨ (o.f0 = 2 ∧ Rg o.f1 ∧ Rg o.f2 ∧ Rg o.f3 ∧ o.f5 = []) ∨ (o.f0 = 3 ∧ Rg o.f1 ∧ Rg o.f2 ∧ o.f3 = 0 ∧ o.f4 = 0 ∧ o.f5 = []) ∨
  (o.f0 = 4 ∧ Rg o.f1 ∧ Rg o.f2 ∧ o.f3 = 0 ∧ o.f5 = []) ∨ (o.f0 = 5 ∧ o.f1 = 0 ∧ Rg o.f2 ∧ Rg o.f3 ∧ o.f5 = []) ∨ (o.f0 = 6 ∧ Rg o.f1 ∧ o.f2 = 0 ∧ o.f3 = 0 ∧ o.f5 = []) ∨
  (o.f0 = 7 ∧ Rg o.f1 ∧ o.f2 = 0 ∧ o.f3 = 0 ∧ ∀ a ∈ o.f5, Rg a) ∨ (o.f0 = 8 ∧ Rg o.f1 ∧ o.f2 = 0 ∧ o.f3 = 0 ∧ o.f4 = 0 ∧ o.f5 = []) ∨ (o.f0 = 9 ∧ o.f1 = 0 ∧ Rg o.f2 ∧ o.f3 = 0 ∧ o.f4 = 0 ∧ o.f5 = [])
/-- A right Term, of so many blocks. -/
def Rt (t : S25) (n : Nat) : Prop :=
  (t.f0 = 1 ∧ 0 ≤ t.f2 ∧ t.f2 < n ∧ t.f1 = 0 ∧ t.f3 = 0) ∨ (t.f0 = 2 ∧ 0 ≤ t.f2 ∧ t.f2 < n ∧ 0 ≤ t.f3 ∧ t.f3 < n ∧ Rg t.f1) ∨ (t.f0 = 3 ∧ Rg t.f1 ∧ t.f2 = 0 ∧ t.f3 = 0) ∨ (t.f0 = 4 ∧ t.f1 = 0 ∧ t.f3 = 0)
theorem within_f (a b c : Int) : code_within.f a b c = some (decide (b ≤ a ∧ a ≤ c)) := by
  unfold code_within.f
  by_cases h : b ≤ a <;> simp [h]
theorem reg_f (a : Int) : code_reg.f a = some (decide (Rg a)) := by
  unfold code_reg.f Rg
  rw [within_f]; rfl
theorem field_f (a : Int) (b : Bool) : code_field.f a b = some (if b then decide (Rg a) else decide (a = 0)) := by
  unfold code_field.f
  rw [reg_f]
  by_cases h : a = 0
  · cases b <;> simp [h]
  · cases b <;> simp [h]
theorem rop_l0 {o : S30} (hl : o.f5.length ≤ 1000) : ∀ (ys : List Int) (n i : Nat), o.f5.drop i = ys → ys.length < n → ∃ r, code_RightOp.l0 o (fun x => some (!(decide (0 ≤ x)))) n i = some r ∧ (r = .inl false ∨ r = .inr () ∧ ∀ a ∈ ys, Rg a) := by
  intro ys
  induction ys with
  | nil =>
    intro n i hdr hn
    obtain ⟨n, rfl⟩ : ∃ m, n = m + 1 := ⟨n - 1, by simp at hn; omega⟩
    rw [code_RightOp.l0, if_neg (drop_nil hdr)]
    exact ⟨_, rfl, .inr ⟨rfl, fun a ha => by cases ha⟩⟩
  | cons y ys ih =>
    intro n i hdr hn
    obtain ⟨n, rfl⟩ : ∃ m, n = m + 1 := ⟨n - 1, by simp at hn; omega⟩
    obtain ⟨h1, h2, h3, h4⟩ := drop_cons hdr
    rw [code_RightOp.l0, if_pos h1, h2]
    simp only [Option.bind_some]
    unfold code_RightOp_1.f
    rw [reg_f]
    simp only [Option.bind_some]
    by_cases hr : Rg y
    · rw [decide_eq_true hr]
      simp only [Bool.not_true, Bool.false_eq_true, if_false]
      rw [wsucc (by omega)]
      obtain ⟨r, r1, r2⟩ := ih n (i + 1) h3 (by simp at hn; omega)
      refine ⟨r, r1, ?_⟩
      rcases r2 with r2 | ⟨r2, r3⟩
      · exact .inl r2
      · exact .inr ⟨r2, fun a ha => by
          rcases List.mem_cons.1 ha with rfl | ha
          · exact hr
          · exact r3 a ha⟩
    · rw [decide_eq_false hr]
      simp only [Bool.not_false, if_true]
      exact ⟨_, rfl, .inl (by simp)⟩
theorem shape_f (k : Int) : code_shapeOf.f k = some (if k = 1 ∨ k = 6 ∨ k = 7 then (⟨true, false, false, true⟩, true) else if k = 2 then (⟨true, true, true, true⟩, true) else if k = 3 then (⟨true, true, false, false⟩, true) else if k = 4 then (⟨true, true, false, true⟩, true) else if k = 5 then (⟨false, true, true, true⟩, true) else if k = 8 then (⟨true, false, false, false⟩, true) else if k = 9 then (⟨false, true, false, false⟩, true) else (⟨false, false, false, false⟩, false)) := by
  unfold code_shapeOf.f
  simp only [jn]
  by_cases h1 : k = 1
  · simp [h1]
  by_cases h6 : k = 6
  · simp [h6]
  by_cases h7 : k = 7
  · simp [h7]
  simp [h1, h6, h7]
  repeat' (first | rfl | split)
theorem known_f (a : Int) : ∃ b, word_Known.f a = some b := by
  unfold word_Known.f
  by_cases h : 1 ≤ a <;> simp [h]
theorem imm_f (o : S30) (s : S89) (k : Int) : ∃ b, code_immediate.f o s k = some b ∧ (b = true → s.f3 = false → o.f0 ≠ 2 ∧ o.f0 ≠ 4 ∧ o.f0 ≠ 5 ∧ o.f0 ≠ 6 ∧ o.f0 ≠ 7 → o.f4 = 0) := by
  unfold code_immediate.f
  simp only [jn, within_f, Option.bind_some]
  obtain ⟨b, hb⟩ := known_f o.f4
  rw [hb]
  by_cases h2 : o.f0 = 2
  · exact ⟨b, by simp [h2], fun _ _ h => absurd h2 h.1⟩
  by_cases h4 : o.f0 = 4
  · exact ⟨_, by simp [h4]; rfl, fun _ _ h => absurd h4 h.2.1⟩
  by_cases h5 : o.f0 = 5
  · exact ⟨_, by simp [h5]; rfl, fun _ _ h => absurd h5 h.2.2.1⟩
  by_cases h6 : o.f0 = 6
  · exact ⟨_, by simp [h6]; rfl, fun _ _ h => absurd h6 h.2.2.2.1⟩
  by_cases h7 : o.f0 = 7
  · exact ⟨_, by simp [h7]; rfl, fun _ _ h => absurd h7 h.2.2.2.2⟩
  cases hs : s.f3 with
  | true => exact ⟨true, by simp [h2, h4, h5, h6, h7], fun _ h => by cases h⟩
  | false => exact ⟨decide (o.f4 = 0), by simp [h2, h4, h5, h6, h7], fun h _ _ => of_decide_eq_true h⟩
theorem rop_f (o : S30) (k : Int) (hl : o.f5.length ≤ 20) : ∃ b, code_RightOp.f o k = some b ∧ (b = true → Ro o) := by
  obtain ⟨r, r1, r2⟩ := rop_l0 (o := o) (by omega) o.f5 (o.f5.length + 1) 0 (by simp) (by omega)
  have r1' : code_RightOp.l0 o (fun x => some (!(decide (0 ≤ x)))) (o.f5.length + 1) 0 = some r := r1
  unfold code_RightOp.f
  rw [shape_f]
  simp only [jn, field_f, Option.bind_some]
  by_cases hk : o.f0 = 1 ∨ o.f0 = 2 ∨ o.f0 = 3 ∨ o.f0 = 4 ∨ o.f0 = 5 ∨ o.f0 = 6 ∨ o.f0 = 7 ∨ o.f0 = 8 ∨ o.f0 = 9
  · obtain ⟨s, hs, hsp⟩ : ∃ s : S89, (if o.f0 = 1 ∨ o.f0 = 6 ∨ o.f0 = 7 then ((⟨true, false, false, true⟩, true) : S89 × Bool) else if o.f0 = 2 then (⟨true, true, true, true⟩, true) else if o.f0 = 3 then (⟨true, true, false, false⟩, true) else if o.f0 = 4 then (⟨true, true, false, true⟩, true) else if o.f0 = 5 then (⟨false, true, true, true⟩, true) else if o.f0 = 8 then (⟨true, false, false, false⟩, true) else if o.f0 = 9 then (⟨false, true, false, false⟩, true) else (⟨false, false, false, false⟩, false)) = (s, true) ∧
        ((if s.f0 then Rg o.f1 else o.f1 = 0) → (if s.f1 then Rg o.f2 else o.f2 = 0) → (if s.f2 then Rg o.f3 else o.f3 = 0) → ((s.f3 = false → o.f0 ≠ 2 ∧ o.f0 ≠ 4 ∧ o.f0 ≠ 5 ∧ o.f0 ≠ 6 ∧ o.f0 ≠ 7 → o.f4 = 0)) → (if o.f0 = 7 then ∀ a ∈ o.f5, Rg a else o.f5 = []) → Ro o) := by
      unfold Ro
      rcases hk with h | h | h | h | h | h | h | h | h <;> simp [h] <;> grind
    rw [hs]
    simp only [Bool.not_true, Bool.false_eq_true, if_false]
    obtain ⟨b4, hb4, hb4p⟩ := imm_f o s k
    rw [hb4]
    simp only [Option.bind_some]
    by_cases c1 : (if s.f0 = true then decide (Rg o.f1) else decide (o.f1 = 0)) = true
    · rw [c1]
      simp only [Bool.not_true, Bool.false_eq_true, if_false]
      by_cases c2 : (if s.f1 = true then decide (Rg o.f2) else decide (o.f2 = 0)) = true
      · rw [c2]
        simp only [Bool.not_true, Bool.false_eq_true, if_false]
        by_cases c3 : (if s.f2 = true then decide (Rg o.f3) else decide (o.f3 = 0)) = true
        · rw [c3]
          simp only [Bool.not_true, Bool.false_eq_true, if_false]
          cases b4 with
          | false => exact ⟨false, by simp, fun h => by cases h⟩
          | true =>
            simp only [Bool.not_true, Bool.false_eq_true, if_false]
            have fin : (if o.f0 = 7 then ∀ a ∈ o.f5, Rg a else o.f5 = []) → Ro o := fun h5 => hsp
              (by cases h0 : s.f0 <;> rw [h0] at c1 <;> simpa using c1) (by cases h0 : s.f1 <;> rw [h0] at c2 <;> simpa using c2) (by cases h0 : s.f2 <;> rw [h0] at c3 <;> simpa using c3) (hb4p rfl) h5
            by_cases h7 : o.f0 = 7
            · simp only [h7, decide_true, Bool.not_true, Bool.false_eq_true, if_false]
              by_cases h8 : (o.f5.length : Int) ≤ 8
              · rw [if_pos h8, r1']
                simp only [Option.bind_some]
                rcases r2 with rfl | ⟨rfl, r3⟩
                · exact ⟨false, rfl, fun h => by cases h⟩
                · exact ⟨true, by simp, fun _ => fin (by rw [if_pos h7]; exact r3)⟩
              · rw [if_neg h8]
                exact ⟨false, rfl, fun h => by cases h⟩
            · simp only [h7, decide_false, Bool.not_false, if_true]
              exact ⟨_, rfl, fun h => fin (by rw [if_neg h7]; have := of_decide_eq_true h; exact List.length_eq_zero_iff.1 (by omega))⟩
        · have c3' := Bool.eq_false_iff.2 c3
          rw [c3']
          exact ⟨false, by simp, fun h => by cases h⟩
      · have c2' := Bool.eq_false_iff.2 c2
        rw [c2']
        exact ⟨false, by simp, fun h => by cases h⟩
    · have c1' := Bool.eq_false_iff.2 c1
      rw [c1']
      exact ⟨false, by simp, fun h => by cases h⟩
  · have h1 : ¬ (o.f0 = 1 ∨ o.f0 = 6 ∨ o.f0 = 7) := by omega
    have h2 : ¬ o.f0 = 2 := by omega
    have h3 : ¬ o.f0 = 3 := by omega
    have h4 : ¬ o.f0 = 4 := by omega
    have h5 : ¬ o.f0 = 5 := by omega
    have h8 : ¬ o.f0 = 8 := by omega
    have h9 : ¬ o.f0 = 9 := by omega
    rw [if_neg h1, if_neg h2, if_neg h3, if_neg h4, if_neg h5, if_neg h8, if_neg h9]
    exact ⟨false, by simp, fun h => by cases h⟩
theorem rterm_f (t : S25) {n : Nat} (h1 : 1 ≤ n) (h2 : n ≤ 4096) : ∃ b, code_rightTerm.f t (n : Int) = some b ∧ (b = true → Rt t n) := by
  unfold code_rightTerm.f
  have hw : IntKind.i64.wrap ((n : Int) - 1) = (n : Int) - 1 := w64 (by omega) (by omega)
  simp only [within_f, reg_f, Option.bind_some, hw]
  by_cases c1 : t.f0 = 1
  · by_cases a : 0 ≤ t.f2 ∧ t.f2 ≤ (n : Int) - 1
    · refine ⟨(t.f1 == 0) && (t.f3 == 0), by simp [c1, a], fun h => ?_⟩
      simp at h
      exact .inl ⟨c1, a.1, by omega, h.1, h.2⟩
    · exact ⟨false, by simp [c1, a], fun h => by cases h⟩
  by_cases c2 : t.f0 = 2
  · by_cases a : 0 ≤ t.f2 ∧ t.f2 ≤ (n : Int) - 1
    · by_cases b : 0 ≤ t.f3 ∧ t.f3 ≤ (n : Int) - 1
      · refine ⟨decide (Rg t.f1), by simp [c2, a, b], fun h => ?_⟩
        exact .inr (.inl ⟨c2, a.1, by omega, b.1, by omega, of_decide_eq_true h⟩)
      · exact ⟨false, by simp [c2, a, b], fun h => by cases h⟩
    · exact ⟨false, by simp [c2, a], fun h => by cases h⟩
  by_cases c3 : t.f0 = 3
  · by_cases a : Rg t.f1
    · refine ⟨(t.f2 == 0) && (t.f3 == 0), by simp [c3, a], fun h => ?_⟩
      simp at h
      exact .inr (.inr (.inl ⟨c3, a, h.1, h.2⟩))
    · exact ⟨false, by simp [c3, a], fun h => by cases h⟩
  by_cases c4 : t.f0 = 4
  · by_cases a : 1 ≤ t.f2 ∧ t.f2 ≤ 15
    · refine ⟨(t.f1 == 0) && (t.f3 == 0), by simp [c4, a], fun h => ?_⟩
      simp at h
      exact .inr (.inr (.inr ⟨c4, h.1, h.2⟩))
    · exact ⟨false, by simp [c4, a], fun h => by cases h⟩
  · exact ⟨false, by simp [c1, c2, c3, c4], fun h => by cases h⟩
theorem right_l2 {t : S36} (h1 : 1 ≤ t.f1.length) (h2 : t.f1.length ≤ 4096) {j : Int → Option Bool} (hj : ∀ x : Nat, j x = some false) :
    ∀ (ys : List S28) (n i : Nat), t.f1.drop i = ys → ys.length < n → ∃ r, code_Right.l2 t j n i = some r ∧ (r = .inl false ∨ r = .inr () ∧ ∀ y ∈ ys, Rt y.f1 t.f1.length) := by
  intro ys
  induction ys with
  | nil =>
    intro n i hdr hn
    obtain ⟨n, rfl⟩ : ∃ m, n = m + 1 := ⟨n - 1, by simp at hn; omega⟩
    rw [code_Right.l2, if_neg (drop_nil hdr)]
    exact ⟨_, rfl, .inr ⟨rfl, fun a ha => by cases ha⟩⟩
  | cons y ys ih =>
    intro n i hdr hn
    obtain ⟨n, rfl⟩ : ∃ m, n = m + 1 := ⟨n - 1, by simp at hn; omega⟩
    obtain ⟨g1, g2, g3, g4⟩ := drop_cons hdr
    rw [code_Right.l2, if_pos g1, g2]
    simp only [Option.bind_some]
    obtain ⟨b, hb, hbp⟩ := rterm_f y.f1 h1 h2
    rw [hb]
    simp only [Option.bind_some]
    cases b with
    | false =>
      simp only [Bool.not_false, if_true]
      rw [hj i]
      exact ⟨_, rfl, .inl rfl⟩
    | true =>
      simp only [Bool.not_true, Bool.false_eq_true, if_false]
      rw [wsucc (by omega)]
      obtain ⟨r, r1, r2⟩ := ih n (i + 1) g3 (by simp at hn; omega)
      refine ⟨r, r1, ?_⟩
      rcases r2 with r2 | ⟨r2, r3⟩
      · exact .inl r2
      · exact .inr ⟨r2, fun a ha => by
          rcases List.mem_cons.1 ha with rfl | ha
          · exact hbp rfl
          · exact r3 a ha⟩
theorem right_l1 {y : S28} {k : Int} (hl : y.f0.length ≤ 250) (ha : ∀ o ∈ y.f0, o.f5.length ≤ 20) :
    ∀ (ys : List S30) (n i x : Nat), y.f0.drop i = ys → ys.length < n → x + ys.length ≤ 250 → ∃ r, code_Right.l1 k y n i x = some r ∧ (r = .inl (.inl false) ∨ r = .inr ((x + ys.length : Nat) : Int) ∧ ∀ o ∈ ys, Ro o) := by
  intro ys
  induction ys with
  | nil =>
    intro n i x hdr hn hx
    obtain ⟨n, rfl⟩ : ∃ m, n = m + 1 := ⟨n - 1, by simp at hn; omega⟩
    rw [code_Right.l1, if_neg (drop_nil hdr)]
    exact ⟨_, rfl, .inr ⟨rfl, fun a ha => by cases ha⟩⟩
  | cons o ys ih =>
    intro n i x hdr hn hx
    obtain ⟨n, rfl⟩ : ∃ m, n = m + 1 := ⟨n - 1, by simp at hn; omega⟩
    obtain ⟨g1, g2, g3, g4⟩ := drop_cons hdr
    simp only [List.length_cons] at hx
    rw [code_Right.l1, if_pos g1, g2]
    simp only [Option.bind_some, jn]
    rw [wsucc (i := x) (by omega), if_neg (by omega)]
    obtain ⟨b, hb, hbp⟩ := rop_f o k (ha o g4)
    rw [hb]
    simp only [Option.bind_some]
    cases b with
    | false => exact ⟨_, rfl, .inl rfl⟩
    | true =>
      simp only [Bool.not_true, Bool.false_eq_true, if_false]
      rw [wsucc (by omega)]
      obtain ⟨r, r1, r2⟩ := ih n (i + 1) (x + 1) g3 (by simp at hn; omega) (by omega)
      refine ⟨r, r1, ?_⟩
      rcases r2 with r2 | ⟨r2, r3⟩
      · exact .inl r2
      · refine .inr ⟨by rw [r2, List.length_cons]; congr 2; omega, fun a ha' => by
          rcases List.mem_cons.1 ha' with rfl | ha'
          · exact hbp rfl
          · exact r3 a ha'⟩
theorem right_l0 {t : S36} {k : Int} (hl : t.f1.length ≤ 40) (ho : ∀ y ∈ t.f1, y.f0.length ≤ 250 ∧ ∀ o ∈ y.f0, o.f5.length ≤ 20) :
    ∀ (ys : List S28) (n i x : Nat), t.f1.drop i = ys → ys.length < n → x + opsN ys ≤ 250 → ∃ r, code_Right.l0 t k n i x = some r ∧ (r = .inl false ∨ ∃ z, r = .inr z ∧ ∀ y ∈ ys, ∀ o ∈ y.f0, Ro o) := by
  intro ys
  induction ys with
  | nil =>
    intro n i x hdr hn hx
    obtain ⟨n, rfl⟩ : ∃ m, n = m + 1 := ⟨n - 1, by simp at hn; omega⟩
    rw [code_Right.l0, if_neg (drop_nil hdr)]
    exact ⟨_, rfl, .inr ⟨_, rfl, fun a ha => by cases ha⟩⟩
  | cons y ys ih =>
    intro n i x hdr hn hx
    obtain ⟨n, rfl⟩ : ∃ m, n = m + 1 := ⟨n - 1, by simp at hn; omega⟩
    obtain ⟨g1, g2, g3, g4⟩ := drop_cons hdr
    simp only [opsN, List.map_cons, List.sum_cons] at hx
    rw [code_Right.l0, if_pos g1, g2]
    simp only [Option.bind_some]
    obtain ⟨r, r1, r2⟩ := right_l1 (y := y) (k := k) (ho y g4).1 (ho y g4).2 y.f0 (y.f0.length + 1) 0 x (by simp) (by omega) (by omega)
    have r1' : code_Right.l1 k y (y.f0.length + 1) 0 x = some r := r1
    rw [r1']
    simp only [Option.bind_some]
    rcases r2 with rfl | ⟨rfl, r3⟩
    · exact ⟨_, rfl, .inl rfl⟩
    · simp only []
      rw [wsucc (by omega)]
      obtain ⟨q, q1, q2⟩ := ih n (i + 1) (x + y.f0.length) g3 (by simp at hn; omega) (by simp only [opsN]; omega)
      refine ⟨q, q1, ?_⟩
      rcases q2 with q2 | ⟨z, q2, q3⟩
      · exact .inl q2
      · exact .inr ⟨z, q2, fun a ha' => by
          rcases List.mem_cons.1 ha' with rfl | ha'
          · exact r3
          · exact q3 a ha'⟩
/-- A right function. -/
structure Rf (t : S36) : Prop where
  l1 : 1 ≤ t.f1.length
  p0 : 0 ≤ t.f0
  p1 : t.f0 ≤ 8
  term : ∀ y ∈ t.f1, Rt y.f1 t.f1.length
  op : ∀ y ∈ t.f1, ∀ o ∈ y.f0, Ro o
theorem right_f {t : S36} (hf : Fewp t) (k : Int) : ∃ b, code_Right.f t k = some b ∧ (b = true → Rf t) := by
  obtain ⟨f1, f2, f3⟩ := hf
  unfold code_Right.f
  simp only [jn, within_f, Option.bind_some]
  by_cases c1 : 1 ≤ (t.f1.length : Int) ∧ (t.f1.length : Int) ≤ 4096
  · rw [decide_eq_true c1]
    simp only [Bool.not_true, Bool.false_eq_true, if_false]
    by_cases c2 : 0 ≤ t.f0 ∧ t.f0 ≤ 8
    · rw [decide_eq_true c2]
      simp only [Bool.not_true, Bool.false_eq_true, if_false]
      obtain ⟨r, r1, r2⟩ := right_l2 (t := t) (by omega) (by omega) (j := fun x386 => if 0 ≤ x386 then some false else (code_Right.l0 t k (t.f1.length + 1) 0 0).bind fun | .inl q_ => some q_ | .inr x1878 => (some true)) (fun x => by rw [if_pos (by omega)]) t.f1 (t.f1.length + 1) 0 (by simp) (by omega)
      obtain ⟨q, q1, q2⟩ := right_l0 (t := t) (k := k) f1 f3 t.f1 (t.f1.length + 1) 0 0 (by simp) (by omega) (by omega)
      have q1' : code_Right.l0 t k (t.f1.length + 1) 0 0 = some q := q1
      rcases r2 with rfl | ⟨rfl, r3⟩
      · exact ⟨false, (congrArg (fun A : Option (Sum Bool Unit) => Option.bind A _) r1).trans rfl, fun h => by cases h⟩
      · rcases q2 with rfl | ⟨z, rfl, q3⟩
        · refine ⟨false, (congrArg (fun A : Option (Sum Bool Unit) => Option.bind A _) r1).trans ?_, fun h => by cases h⟩
          show (if (0 : Int) ≤ -1 then some false else (code_Right.l0 t k (t.f1.length + 1) 0 0).bind fun | .inl q_ => some q_ | .inr x1878 => (some true)) = _
          rw [if_neg (by omega)]
          exact (congrArg (fun A : Option (Sum Bool Int) => Option.bind A _) q1).trans rfl
        · refine ⟨true, (congrArg (fun A : Option (Sum Bool Unit) => Option.bind A _) r1).trans ?_, fun _ => ⟨by omega, c2.1, c2.2, r3, q3⟩⟩
          show (if (0 : Int) ≤ -1 then some false else (code_Right.l0 t k (t.f1.length + 1) 0 0).bind fun | .inl q_ => some q_ | .inr x1878 => (some true)) = _
          rw [if_neg (by omega)]
          exact (congrArg (fun A : Option (Sum Bool Int) => Option.bind A _) q1).trans rfl
    · rw [decide_eq_false c2]
      exact ⟨false, by simp, fun h => by cases h⟩
  · rw [decide_eq_false c1]
    exact ⟨false, by simp, fun h => by cases h⟩
end Go.Proofs.Ytmacdhkfgoahcaa.Sy
set_option linter.unusedVariables false
set_option linter.unusedSimpArgs false
namespace Go.Proofs.Ytmacdhkfgoahcaa.Sy
open Go Go.RowKit Go.Proofs.YtmacdhkfgoahcaaW.PrintWords Go.Proofs.Ytmacdhkfgoahcaa.SyO
theorem loopd {α ρ : Type} {xs : List α} (hl : xs.length ≤ 140737488355328) {F : Nat → Int → ρ} {P : List α → ρ → Prop} (hend : ∀ n, P [] (F (n + 1) (xs.length : Int)))
    (hstep : ∀ n (i : Nat) y r, xs.drop i = y :: r → (i : Int) < (xs.length : Int) → at? xs (i : Int) = some y → y ∈ xs → IntKind.i64.wrap ((i : Int) + 1) = ((i + 1 : Nat) : Int) → P r (F n ((i + 1 : Nat) : Int)) → P (y :: r) (F (n + 1) (i : Int))) :
    ∀ n, xs.length < n → P xs (F n 0) := by
  have key : ∀ (ys : List α) (n i : Nat), xs.drop i = ys → ys.length < n → i ≤ xs.length → P ys (F n (i : Int)) := by
    intro ys
    induction ys with
    | nil =>
      intro n i hd hn hi
      have hlen := congrArg List.length hd
      rw [List.length_drop, List.length_nil] at hlen
      obtain rfl : i = xs.length := by omega
      obtain ⟨m, rfl⟩ : ∃ m, n = m + 1 := ⟨n - 1, by simp at hn; omega⟩
      exact hend m
    | cons y r ih =>
      intro n i hd hn hi
      obtain ⟨h1, h2, h3, h4⟩ := drop_cons hd
      obtain ⟨m, rfl⟩ : ∃ m, n = m + 1 := ⟨n - 1, by omega⟩
      exact hstep m i y r hd h1 h2 h4 (wsucc (by omega)) (ih m (i + 1) h3 (by simp at hn; omega) (by omega))
  intro n hn
  exact key xs n 0 (by simp) hn (by omega)
theorem at_nat {α : Type} {xs : List α} {i : Nat} {y : α} : at? xs (i : Int) = some y ↔ xs[i]? = some y := by
  unfold at?; rw [if_pos (by omega), Int.toNat_natCast]
theorem set_same {α : Type} {xs : List α} {i : Int} {y : α} (h : at? xs i = some y) : xs.set i.toNat y = xs := by
  unfold at? at h
  split at h
  · apply List.ext_getElem?
    intro j
    by_cases hj : i.toNat = j
    · subst hj; rw [List.getElem?_set_self (List.getElem?_eq_some_iff.1 h).1, h]
    · rw [List.getElem?_set_ne hj]
  · cases h
theorem at_zip {α β : Type} {xs : List α} {zs : List β} {i : Nat} {p : α × β} (h : at? (xs.zip zs) (i : Int) = some p) : at? xs (i : Int) = some p.1 ∧ at? zs (i : Int) = some p.2 := by
  rw [at_nat] at h
  rw [at_nat, at_nat]
  obtain ⟨h1, h2⟩ := List.getElem?_eq_some_iff.1 h
  rw [List.length_zip] at h1
  rw [List.getElem_zip] at h2
  subst h2
  exact ⟨List.getElem?_eq_getElem _, List.getElem?_eq_getElem _⟩
theorem zip_all {α : Type} : ∀ {xs zs : List α}, xs.length = zs.length → ((∀ p ∈ xs.zip zs, p.1 = p.2) ↔ xs = zs)
  | [], [], _ => by simp
  | x :: xs, z :: zs, h => by
    have ih := zip_all (xs := xs) (zs := zs) (by simpa using h)
    simp only [List.zip_cons_cons, List.mem_cons, forall_eq_or_imp, List.cons.injEq]
    rw [← ih]
theorem known_b (a : Int) : word_Known.f a = some (decide (1 ≤ a ∧ a ≤ 14)) := by
  unfold word_Known.f
  by_cases h : 1 ≤ a <;> simp [h]
def Ra (o : S30) : Bool := o.f5.all fun a => decide (Rg a)
theorem cop_l0 {o : S30} (hl : o.f5.length ≤ 1000) : (code_RightOp.l0 o (fun x => some (!(decide (0 ≤ x)))) (o.f5.length + 1) 0).bind (fun | .inl q => some q | .inr _ => some true) = some (Ra o) := by
  have := loopd (xs := o.f5) (F := fun n i => code_RightOp.l0 o (fun x => some (!(decide (0 ≤ x)))) n i) (P := fun ys r => r.bind (fun | .inl q => some q | .inr _ => some true) = some (ys.all fun a => decide (Rg a))) (by omega) (fun n => ?_) (fun n i y r hd hlt hat hm hw ih => ?_) (o.f5.length + 1) (by omega)
  · exact this
  · simp [code_RightOp.l0]
  · show Option.bind (code_RightOp.l0 o (fun x => some (!(decide (0 ≤ x)))) (n + 1) i) _ = _
    rw [code_RightOp.l0, if_pos hlt, hat, Option.bind_some]
    unfold code_RightOp_1.f
    rw [reg_f, Option.bind_some, Option.bind_some]
    by_cases hy : Rg y
    · rw [decide_eq_true hy, if_neg (by simp), hw]
      simp only [List.all_cons, decide_eq_true hy, Bool.true_and]
      exact ih
    · rw [decide_eq_false hy, if_pos (by simp)]
      simp [hy]
def okOp (o : S30) (k : Int) : Bool :=
  decide (1 ≤ o.f0 ∧ o.f0 ≤ 9) && (if o.f0 = 5 ∨ o.f0 = 9 then decide (o.f1 = 0) else decide (Rg o.f1)) && (if o.f0 = 2 ∨ o.f0 = 3 ∨ o.f0 = 4 ∨ o.f0 = 5 ∨ o.f0 = 9 then decide (Rg o.f2) else decide (o.f2 = 0)) &&
  (if o.f0 = 2 ∨ o.f0 = 5 then decide (Rg o.f3) else decide (o.f3 = 0)) &&
  (if o.f0 = 1 then true else if o.f0 = 2 then decide (1 ≤ o.f4 ∧ o.f4 ≤ 14) else if o.f0 = 4 ∨ o.f0 = 5 then decide (-2147483648 ≤ o.f4 ∧ o.f4 ≤ 2147483647) else if o.f0 = 6 then decide (0 ≤ o.f4 ∧ o.f4 ≤ 1048576) else if o.f0 = 7 then decide (0 ≤ o.f4 ∧ o.f4 < k) else decide (o.f4 = 0)) &&
  (if o.f0 = 7 then decide (o.f5.length ≤ 8) && Ra o else decide (o.f5.length = 0))
theorem nine {n : Int} (h1 : 1 ≤ n) (h9 : n ≤ 9) : n = 1 ∨ n = 2 ∨ n = 3 ∨ n = 4 ∨ n = 5 ∨ n = 6 ∨ n = 7 ∨ n = 8 ∨ n = 9 := by omega
theorem ra_nil {o : S30} (h : o.f5.length = 0) : Ra o = true := by
  unfold Ra; rw [List.eq_nil_of_length_eq_zero h]; rfl
theorem cop_f {o : S30} {k : Int} (hl : o.f5.length ≤ 20) (hk0 : 0 ≤ k) (hk1 : k ≤ 1000) : code_RightOp.f o k = some (okOp o k) := by
  have hw : IntKind.i64.wrap (k - 1) = k - 1 := w64 (by omega) (by omega)
  have hl0 := cop_l0 (o := o) (by omega)
  unfold code_RightOp.f code_immediate.f
  simp only [jn, shape_f, field_f, within_f, known_b, Option.bind_some, hw]
  clear hw
  unfold okOp
  generalize o.f5.length = L at *
  by_cases hkk : 1 ≤ o.f0 ∧ o.f0 ≤ 9
  · rcases nine hkk.1 hkk.2 with h | h | h | h | h | h | h | h | h <;> simp only [h] <;> simp [hl0]
    all_goals (try split) <;> (try split) <;> (try split) <;> (try split) <;> (try split) <;> simp_all [hl0] <;> first | (intros; omega) | skip
    first | refine Eq.trans hl0 ?_ | skip
    have h1 : o.f4 < k := by omega
    have h2 : L ≤ 8 := by omega
    simp [h1, h2]
  · simp only [decide_eq_false hkk]
    have : ¬ o.f0 = 1 ∧ ¬ o.f0 = 2 ∧ ¬ o.f0 = 3 ∧ ¬ o.f0 = 4 ∧ ¬ o.f0 = 5 ∧ ¬ o.f0 = 6 ∧ ¬ o.f0 = 7 ∧ ¬ o.f0 = 8 ∧ ¬ o.f0 = 9 := by omega
    obtain ⟨a1, a2, a3, a4, a5, a6, a7, a8, a9⟩ := this
    simp [a1, a2, a3, a4, a5, a6, a7, a8, a9]
theorem beq_dec (a b : Int) : (a == b) = decide (a = b) := by by_cases h : a = b <;> simp [h]
def okTerm (t : S25) (n : Int) : Bool :=
  if t.f0 = 1 then decide (0 ≤ t.f2 ∧ t.f2 < n) && decide (t.f1 = 0) && decide (t.f3 = 0)
  else if t.f0 = 2 then decide (0 ≤ t.f2 ∧ t.f2 < n) && decide (0 ≤ t.f3 ∧ t.f3 < n) && decide (Rg t.f1)
  else if t.f0 = 3 then decide (Rg t.f1) && decide (t.f2 = 0) && decide (t.f3 = 0)
  else if t.f0 = 4 then decide (1 ≤ t.f2 ∧ t.f2 ≤ 15) && decide (t.f1 = 0) && decide (t.f3 = 0) else false
theorem cterm_f {t : S25} {n : Int} (h0 : 0 ≤ n) (h1 : n ≤ 5000) : code_rightTerm.f t n = some (okTerm t n) := by
  have hw : IntKind.i64.wrap (n - 1) = n - 1 := w64 (by omega) (by omega)
  have hn : ∀ a : Int, (0 ≤ a ∧ a ≤ n - 1) ↔ (0 ≤ a ∧ a < n) := fun a => by omega
  unfold code_rightTerm.f okTerm
  simp only [within_f, reg_f, Option.bind_some, hw, hn]
  by_cases a1 : t.f0 = 1
  · simp only [a1, if_true]; by_cases q1 : 0 ≤ t.f2 ∧ t.f2 < n <;> simp [q1, beq_dec]
  by_cases a2 : t.f0 = 2
  · simp only [a2]; by_cases q1 : 0 ≤ t.f2 ∧ t.f2 < n <;> by_cases q2 : 0 ≤ t.f3 ∧ t.f3 < n <;> simp [q1, q2]
  by_cases a3 : t.f0 = 3
  · simp only [a3]; by_cases q1 : Rg t.f1 <;> simp [q1, beq_dec]
  by_cases a4 : t.f0 = 4
  · simp only [a4]; by_cases q1 : 1 ≤ t.f2 ∧ t.f2 ≤ 15 <;> simp [q1, beq_dec]
  simp [a1, a2, a3, a4]
def okFn (t : S36) (k : Int) : Bool :=
  decide (1 ≤ t.f1.length ∧ t.f1.length ≤ 4096) && decide (0 ≤ t.f0 ∧ t.f0 ≤ 8) && (t.f1.all fun y => okTerm y.f1 t.f1.length) && (t.f1.all fun y => y.f0.all fun o => okOp o k)
theorem cright_l2 {t : S36} (hl : t.f1.length ≤ 4096) {j : Int → Option Bool} : (∀ x : Nat, j x = some false) → ((t.f1.all fun y => okTerm y.f1 t.f1.length) = true ∧ code_Right.l2 t j (t.f1.length + 1) 0 = some (.inr ())) ∨ ((t.f1.all fun y => okTerm y.f1 t.f1.length) = false ∧ code_Right.l2 t j (t.f1.length + 1) 0 = some (.inl false)) := fun hj => by
  refine loopd (xs := t.f1) (F := fun n i => code_Right.l2 t j n i) (P := fun ys r => ((ys.all fun y => okTerm y.f1 t.f1.length) = true ∧ r = some (.inr ())) ∨ ((ys.all fun y => okTerm y.f1 t.f1.length) = false ∧ r = some (.inl false))) (by omega) (fun n => ?_) (fun n i y r hd hlt hat hm hw ih => ?_) (t.f1.length + 1) (by omega)
  · left; simp [code_Right.l2]
  · rw [code_Right.l2, if_pos hlt, hat, Option.bind_some, cterm_f (by omega) (by omega), Option.bind_some]
    cases hy : okTerm y.f1 t.f1.length with
    | true => rw [if_neg (by simp), hw]; simpa [hy] using ih
    | false => rw [if_pos (by simp), hj i]; right; simp [hy]
theorem cright_l1 {y : S28} {k : Int} (hk0 : 0 ≤ k) (hk1 : k ≤ 1000) (hl : y.f0.length ≤ 250) (ho : ∀ o ∈ y.f0, o.f5.length ≤ 20) {z : Nat} (hz : z ≤ 10000) : ((y.f0.all fun o => okOp o k) = true ∧ code_Right.l1 k y (y.f0.length + 1) 0 (z : Int) = some (.inr ((z + y.f0.length : Nat) : Int))) ∨ ((y.f0.all fun o => okOp o k) = false ∧ code_Right.l1 k y (y.f0.length + 1) 0 (z : Int) = some (.inl (.inl false))) := by
  have := loopd (xs := y.f0) (F := fun n i w => code_Right.l1 k y n i w) (P := fun os f => ∀ w : Nat, w + os.length ≤ 11000 → ((os.all fun o => okOp o k) = true ∧ f (w : Int) = some (.inr ((w + os.length : Nat) : Int))) ∨ ((os.all fun o => okOp o k) = false ∧ f (w : Int) = some (.inl (.inl false)))) (by omega) (fun n w hw => ?_) (fun n i o r hd hlt hat hm hw ih w hwl => ?_) (y.f0.length + 1) (by omega)
  · exact this z (by omega)
  · left; simp [code_Right.l1]
  · simp only [List.length_cons] at hwl
    show (_ ∧ code_Right.l1 k y (n + 1) i w = _) ∨ (_ ∧ code_Right.l1 k y (n + 1) i w = _)
    rw [code_Right.l1, if_pos hlt, hat, Option.bind_some]
    simp only [jn, wsucc (show w ≤ 140737488355328 by omega)]
    rw [if_neg (by omega), cop_f (ho o hm) hk0 hk1, Option.bind_some]
    cases hy : okOp o k with
    | true =>
      rw [if_neg (by simp), hw]
      have := ih (w + 1) (by omega)
      rw [show w + 1 + r.length = w + (o :: r).length by simp; omega] at this
      simpa [hy] using this
    | false => rw [if_pos (by simp)]; right; simp [hy]
theorem cright_l0 {t : S36} {k : Int} (hk0 : 0 ≤ k) (hk1 : k ≤ 1000) (hf : Fewp t) : ((t.f1.all fun y => y.f0.all fun o => okOp o k) = true ∧ ∃ x, code_Right.l0 t k (t.f1.length + 1) 0 0 = some (.inr x)) ∨ ((t.f1.all fun y => y.f0.all fun o => okOp o k) = false ∧ code_Right.l0 t k (t.f1.length + 1) 0 0 = some (.inl false)) := by
  obtain ⟨f1, f2, f3⟩ := hf
  have := loopd (xs := t.f1) (F := fun n i w => code_Right.l0 t k n i w) (P := fun os f => ∀ w : Nat, w + 250 * os.length ≤ 10000 → ((os.all fun y => y.f0.all fun o => okOp o k) = true ∧ ∃ x, f (w : Int) = some (.inr x)) ∨ ((os.all fun y => y.f0.all fun o => okOp o k) = false ∧ f (w : Int) = some (.inl false))) (by omega) (fun n w hw => ?_) (fun n i y r hd hlt hat hm hw ih w hwl => ?_) (t.f1.length + 1) (by omega)
  · exact this 0 (by omega)
  · left; simp [code_Right.l0]
  · simp only [List.length_cons] at hwl
    show (_ ∧ ∃ x, code_Right.l0 t k (n + 1) i w = _) ∨ (_ ∧ code_Right.l0 t k (n + 1) i w = _)
    rw [code_Right.l0, if_pos hlt, hat, Option.bind_some]
    rcases cright_l1 hk0 hk1 (f3 y hm).1 (f3 y hm).2 (z := w) (by omega) with ⟨h1, h2⟩ | ⟨h1, h2⟩
    · rw [h2, Option.bind_some]
      simp only [hw]
      have := ih (w + y.f0.length) (by have := (f3 y hm).1; omega)
      simpa [h1] using this
    · rw [h2, Option.bind_some]; right; simp [h1]
theorem cright_f {t : S36} {k : Int} (hk0 : 0 ≤ k) (hk1 : k ≤ 1000) (hf : Fewp t) : code_Right.f t k = some (okFn t k) := by
  have hf' := hf
  obtain ⟨f1, f2, f3⟩ := hf'
  unfold code_Right.f okFn
  simp only [jn, within_f, Option.bind_some]
  have e1 : ((1 : Int) ≤ (t.f1.length : Int) ∧ (t.f1.length : Int) ≤ 4096) ↔ (1 ≤ t.f1.length ∧ t.f1.length ≤ 4096) := by omega
  simp only [e1]
  by_cases h1 : 1 ≤ t.f1.length ∧ t.f1.length ≤ 4096
  · by_cases h2 : 0 ≤ t.f0 ∧ t.f0 ≤ 8
    · simp only [decide_eq_true h1, decide_eq_true h2, Bool.not_true, Bool.false_eq_true, if_false, Bool.true_and]
      have key : ∀ (j : Int → Option Bool) (hj : ∀ x : Nat, j x = some false) (X : Bool) (hX : j (-1) = some X), Option.bind (code_Right.l2 t j (t.f1.length + 1) 0) (fun r => match r with | .inl q => some q | .inr _ => j (-1)) = some ((t.f1.all fun y => okTerm y.f1 t.f1.length) && X) := by
        intro j hj X hX
        rcases cright_l2 (t := t) (by omega) hj with ⟨h3, h4⟩ | ⟨h3, h4⟩
        · rw [h4, h3]; simp [hX]
        · rw [h4, h3]; simp
      refine key _ (fun x => by simp) (t.f1.all fun y => y.f0.all fun o => okOp o k) ?_
      rw [if_neg (by omega)]
      rcases cright_l0 hk0 hk1 hf with ⟨h5, x, h6⟩ | ⟨h5, h6⟩ <;> rw [h6, h5] <;> rfl
    · simp [h1, h2]
  · simp [h1]
end Go.Proofs.Ytmacdhkfgoahcaa.Sy
set_option linter.unusedVariables false
set_option linter.unusedSimpArgs false
set_option maxRecDepth 100000
set_option maxHeartbeats 4000000
namespace Go.Proofs.Ytmacdhkfgoahcaa.Sy
open Go Go.RowKit Go.Proofs.YtmacdhkfgoahcaaW.PrintWords 
def slices_Clone_int_int.f (a0 : (List Int)) : Option (List Int) := (if ([] : List Int).length + a0.length ≤ 17592186044416 then some (([] : List Int) ++ a0) else none)
def slices_Clone_int_int.post (G : Gd)  (r : (List Int)) (v : Value) (G' : Gd) (Lr : List Ch) : Prop := G = G' ∧ ∃ (A_1 : Option Addr) (c_1 : Nat), v = .slice A_1 r.length c_1 ∧ Lr = [Row (Kd.int .i64) 3 (.slice A_1 r.length c_1) r]
theorem slices_Clone_int_int.calls {G : Gd} {r : (List Int)} {a0 : (List Int)} {A1 : Option Addr} {c2 : Nat} (hr3 : Rd G (Kd.int .i64) A1 a0) (hl4 : a0.length ≤ c2) (h : slices_Clone_int_int.f a0 = some r) : Fn Try.prog 37 G [] [.slice A1 a0.length c2] (slices_Clone_int_int.post G  r) := by
 refine Fn.intro (e := [(0, .slice A1 a0.length c2)]) 8 Try.func37 rfl Try.ntmps37 rfl rfl (Nat.le_of_ble_eq_true rfl) (fun L => ?_)
 unfold slices_Clone_int_int.f at h
 refine TC.seq ?_
 refine TC.region ?_
 refine TL.cons (TO.val rfl rfl rfl (Val.assign rfl) ?_)
 refine TL.nil ?_
 refine TQ.then_ ?_
 refine TC.seq ?_
 refine TC.seq ?_
 refine TC.region ?_
 refine TL.cons (TO.val rfl rfl rfl (Val.move rfl) ?_)
 refine TL.cons (TO.val rfl rfl rfl (Val.eqNil Try.underlying22 rfl) ?_)
 refine TL.nil ?_
 refine TQ.then_ ?_
 refine TC.cond rfl (fun hc6 => ?_) (fun hc6 => ?_)
 ·
  have hn := Rd.nilEq hr3 hc6
  have h : some ([] : List Int) = some r := by first | (simpa [hn] using h) | (simp [hn] at h; simp [h, hn])
  refine TC.seq ?_
  refine TC.region ?_
  refine TL.cons (TO.val rfl rfl rfl (Val.assign rfl) ?_)
  refine TL.nil ?_
  refine TQ.then_ ?_
  refine TC.ret ?_
  refine TQ.thenR ?_
  refine TQ.nilRow (Kd.int .i64) 3 ?_
  obtain rfl := Option.some.inj h
  exact TQ.fin (.inl rfl) rfl Try.results37 (.tmp rfl .nil) rfl (FRel.mk (Ls := [Row (Kd.int .i64) 3 (.slice none 0 0) ([] : List Int)]) [0] 1 (Gd.le.refl _) rfl rfl rfl ⟨rfl, none, 0, rfl, rfl⟩)
 ·
  refine TC.skip ?_
  refine TQ.then_ ?_
  refine TC.seq ?_
  refine TC.region ?_
  refine TL.cons (TL.buildSlice0 (Kd.int .i64) rfl rfl Try.underlying22 zs3 (fun b8 => ?_))
  refine TL.cons (TO.val rfl rfl rfl (Val.move rfl) ?_)
  obtain ⟨ha10, h⟩ := ite_no h
  refine TL.cons (TL.appendR (xs := ([] : List Int)) (ys := a0) (Kd.int .i64) (Kd.int .i64) rfl rfl Try.underlying22 inf3 rfl (Nat.le_of_ble_eq_true rfl) (Nat.le_of_ble_eq_true rfl) rfl rfl (by omega) hr3 rfl (fun _ _ _ _ _ h => h) (fun A11 c12 => ?_))
  refine TL.cons (TO.val rfl rfl rfl (Val.assign rfl) ?_)
  refine TL.nil ?_
  refine TQ.then_ ?_
  refine TC.ret ?_
  obtain rfl := Option.some.inj h
  exact TQ.fin (.inl rfl) rfl Try.results37 (.tmp rfl .nil) rfl (FRel.mk (Ls := [Row (Kd.int .i64) 3 (.slice A11 (([] : List Int) ++ a0).length c12) (([] : List Int) ++ a0)]) [0] 1 (Gd.le.refl _) rfl rfl rfl ⟨rfl, A11, c12, rfl, rfl⟩)
end Go.Proofs.Ytmacdhkfgoahcaa.Sy
set_option linter.unusedVariables false
set_option linter.unusedSimpArgs false
set_option maxRecDepth 100000
set_option maxHeartbeats 4000000
namespace Go.Proofs.Ytmacdhkfgoahcaa.Sy
open Go Go.RowKit Go.Proofs.YtmacdhkfgoahcaaW.PrintWords 
def fold_constant.f (a0 : S30) (a1 : Int) : Option S30 := some (⟨1, a0.f1, 0, 0, a1, ([] : List Int)⟩ : S30)
def fold_constant.post (G : Gd)  (r : S30) (v : Value) (G' : Gd) (Lr : List Ch) : Prop := G = G' ∧ ∃ (A_1 : Option Addr) (c_1 : Nat), v = .agg #[.int .i64 r.f0, .int .i64 r.f1, .int .i64 r.f2, .int .i64 r.f3, .int .i64 r.f4, .slice A_1 r.f5.length c_1] ∧ Lr = [Row (Kd.int .i64) 3 (.slice A_1 r.f5.length c_1) r.f5]
theorem fold_constant.calls {G : Gd} {r : S30} {a0 : S30} {a1 : Int} {A1 : Option Addr} {c2 : Nat} (hr3 : Rd G (Kd.int .i64) A1 a0.f5) (hl4 : a0.f5.length ≤ c2) (h : fold_constant.f a0 a1 = some r) : Fn Try.prog 77 G [] [.agg #[.int .i64 a0.f0, .int .i64 a0.f1, .int .i64 a0.f2, .int .i64 a0.f3, .int .i64 a0.f4, .slice A1 a0.f5.length c2], .int .i64 a1] (fold_constant.post G  r) := by
 refine Fn.intro (e := [(0, .agg #[.int .i64 a0.f0, .int .i64 a0.f1, .int .i64 a0.f2, .int .i64 a0.f3, .int .i64 a0.f4, .slice A1 a0.f5.length c2]), (1, .int .i64 a1)]) 9 Try.func77 rfl Try.ntmps77 rfl rfl (Nat.le_of_ble_eq_true rfl) (fun L => ?_)
 unfold fold_constant.f at h
 refine TC.seq ?_
 refine TC.region ?_
 refine TL.cons (TL.box (cs := [.int .i64 a0.f0, .int .i64 a0.f1, .int .i64 a0.f2, .int .i64 a0.f3, .int .i64 a0.f4, .slice A1 a0.f5.length c2]) rfl rfl rfl rfl (fun b5 => ?_))
 refine TL.cons (TL.alloc (cs := [.int .i64 0, .int .i64 0, .int .i64 0, .int .i64 0, .int .i64 0, .slice none 0 0]) rfl rfl zr30 rfl (fun b6 => ?_))
 refine TL.nil ?_
 refine TQ.then_ ?_
 refine TC.seq ?_
 refine TC.region ?_
 refine TL.cons (TO.val rfl rfl rfl (Val.fieldAddrB Try.underlying30 rfl fsz3 rfl rfl rfl) ?_)
 refine TL.cons (TO.val rfl rfl rfl (Val.loadB 1 agg3 rfl rfl rfl) ?_)
 refine TL.cons (TO.val rfl rfl rfl (Val.move rfl) ?_)
 refine TL.cons (TO.val rfl rfl rfl (Val.build (cs := [.int .i64 1, .int .i64 a0.f1, .int .i64 0, .int .i64 0, .int .i64 a1, .slice none 0 0]) (is := [0, 1, 4]) (xs := [.const (.int .i64 1), .tmp 6, .tmp 7]) Try.underlying30 zr30 bld30 rfl rfl rfl rfl) ?_)
 refine TL.cons (TL.store 0 (ds := [.int .i64 1, .int .i64 a0.f1, .int .i64 0, .int .i64 0, .int .i64 a1, .slice none 0 0]) (cs' := [.int .i64 1, .int .i64 a0.f1, .int .i64 0, .int .i64 0, .int .i64 a1, .slice none 0 0]) (L' := (Blk b6 [.int .i64 1, .int .i64 a0.f1, .int .i64 0, .int .i64 0, .int .i64 a1, .slice none 0 0] 30 :: Blk b5 [.int .i64 a0.f0, .int .i64 a0.f1, .int .i64 a0.f2, .int .i64 a0.f3, .int .i64 a0.f4, .slice A1 a0.f5.length c2] 30 :: L)) rfl fsz30 rfl rfl rfl rfl rfl (Nat.le_of_ble_eq_true rfl) rfl rfl ?_)
 refine TL.nil ?_
 refine TQ.then_ ?_
 refine TC.ret ?_
 refine TQ.nilRow (Kd.int .i64) 3 ?_
 obtain rfl := Option.some.inj h
 exact TQ.fin (.inl rfl) rfl Try.results77 (.cells 1 rfl rfl agg30 fsz30 .nil) rfl (FRel.mk (Ls := [Row (Kd.int .i64) 3 (.slice none 0 0) ([] : List Int)]) [0] 3 (Gd.le.refl _) rfl rfl rfl ⟨rfl, none, 0, rfl, rfl⟩)
end Go.Proofs.Ytmacdhkfgoahcaa.Sy
set_option linter.unusedVariables false
set_option linter.unusedSimpArgs false
set_option maxRecDepth 100000
set_option maxHeartbeats 4000000
namespace Go.Proofs.Ytmacdhkfgoahcaa.Sy
open Go Go.RowKit Go.Proofs.YtmacdhkfgoahcaaW.PrintWords 
def word_divided.f (a0 : Int) (a1 : Int) (a2 : Int) : Option Int := (if a0 = 4 then (if ¬ (a2 : Int) = 0 then some (IntKind.i64.wrap (a1.tdiv a2)) else none) else (if ¬ (a2 : Int) = 0 then some (a1.tmod a2) else none))
def word_divided.post (G : Gd)  (r : Int) (v : Value) (G' : Gd) (Lr : List Ch) : Prop := G = G' ∧ v = .int .i64 r ∧ Lr = []
theorem word_divided.calls {G : Gd} {r : Int} {a0 : Int} {a1 : Int} {a2 : Int} (h : word_divided.f a0 a1 a2 = some r) : Fn Try.prog 58 G [] [.int .i64 a0, .int .i64 a1, .int .i64 a2] (word_divided.post G  r) := by
 refine Fn.intro (e := [(0, .int .i64 a0), (1, .int .i64 a1), (2, .int .i64 a2)]) 15 Try.func58 rfl Try.ntmps58 rfl rfl (Nat.le_of_ble_eq_true rfl) (fun L => ?_)
 unfold word_divided.f at h
 refine TC.seq ?_
 refine TC.region ?_
 refine TL.cons (TO.val rfl rfl rfl (Val.assign rfl) ?_)
 refine TL.nil ?_
 refine TQ.then_ ?_
 refine TC.seq ?_
 refine TC.seq ?_
 refine TC.region ?_
 refine TL.cons (TO.val rfl rfl rfl (Val.move rfl) ?_)
 refine TL.cons (TO.val rfl rfl rfl (Val.cmp rfl rfl run_eql) ?_)
 refine TL.nil ?_
 refine TQ.then_ ?_
 refine TC.cond_p rfl h (fun hc3 h => ?_) (fun hc3 h => ?_)
 ·
  refine TC.seq ?_
  refine TC.region ?_
  refine TL.cons (TO.val rfl rfl rfl (Val.move rfl) ?_)
  refine TL.cons (TO.val rfl rfl rfl (Val.move rfl) ?_)
  obtain ⟨hz4, h⟩ := ite_no h
  refine TL.cons (TO.val rfl rfl rfl (Val.cmp rfl rfl (run_quo hz4)) ?_)
  refine TL.cons (TO.val rfl rfl rfl (Val.assign rfl) ?_)
  refine TL.nil ?_
  refine TQ.then_ ?_
  refine TC.ret ?_
  refine TQ.thenR ?_
  obtain rfl := Option.some.inj h
  exact TQ.fin (.inl rfl) rfl Try.results58 (.tmp rfl .nil) rfl (FRel.mk (Ls := []) [] 0 (Gd.le.refl _) rfl rfl rfl ⟨rfl, rfl, rfl⟩)
 ·
  refine TC.skip ?_
  refine TQ.then_ ?_
  refine TC.seq ?_
  refine TC.region ?_
  refine TL.cons (TO.val rfl rfl rfl (Val.move rfl) ?_)
  refine TL.cons (TO.val rfl rfl rfl (Val.move rfl) ?_)
  obtain ⟨hz5, h⟩ := ite_no h
  refine TL.cons (TO.val rfl rfl rfl (Val.cmp rfl rfl (run_rem hz5)) ?_)
  refine TL.cons (TO.val rfl rfl rfl (Val.assign rfl) ?_)
  refine TL.nil ?_
  refine TQ.then_ ?_
  refine TC.ret ?_
  obtain rfl := Option.some.inj h
  exact TQ.fin (.inl rfl) rfl Try.results58 (.tmp rfl .nil) rfl (FRel.mk (Ls := []) [] 0 (Gd.le.refl _) rfl rfl rfl ⟨rfl, rfl, rfl⟩)
end Go.Proofs.Ytmacdhkfgoahcaa.Sy
set_option linter.unusedVariables false
set_option linter.unusedSimpArgs false
set_option maxRecDepth 100000
set_option maxHeartbeats 4000000
namespace Go.Proofs.Ytmacdhkfgoahcaa.Sy
open Go Go.RowKit Go.Proofs.YtmacdhkfgoahcaaW.PrintWords 
def word_moved.f (a0 : Int) (a1 : Int) (a2 : Int) : Option Int := (if a0 = 9 then (if ¬ (IntKind.u64.wrap (if 64 < a2 then 64 else a2) : Int) < 0 then some (IntKind.i64.wrap (a1 * (2 ^ (min (IntKind.u64.wrap (if 64 < a2 then 64 else a2)).toNat IntKind.i64.bits)))) else none) else (if ¬ (IntKind.u64.wrap (if 64 < a2 then 64 else a2) : Int) < 0 then some (a1.fdiv (2 ^ (min (IntKind.u64.wrap (if 64 < a2 then 64 else a2)).toNat IntKind.i64.bits))) else none))
def word_moved.post (G : Gd)  (r : Int) (v : Value) (G' : Gd) (Lr : List Ch) : Prop := G = G' ∧ v = .int .i64 r ∧ Lr = []
theorem word_moved.calls {G : Gd} {r : Int} {a0 : Int} {a1 : Int} {a2 : Int} (h : word_moved.f a0 a1 a2 = some r) : Fn Try.prog 59 G [] [.int .i64 a0, .int .i64 a1, .int .i64 a2] (word_moved.post G  r) := by
 refine Fn.intro (e := [(0, .int .i64 a0), (1, .int .i64 a1), (2, .int .i64 a2)]) 19 Try.func59 rfl Try.ntmps59 rfl rfl (Nat.le_of_ble_eq_true rfl) (fun L => ?_)
 unfold word_moved.f at h
 refine TC.seq ?_
 refine TC.region ?_
 refine TL.cons (TO.val rfl rfl rfl (Val.assign rfl) ?_)
 refine TL.nil ?_
 refine TQ.then_ ?_
 refine TC.seq ?_
 refine TC.region ?_
 refine TL.cons (TO.val rfl rfl rfl (Val.move rfl) ?_)
 refine TL.cons (TO.val rfl rfl rfl (Val.min2 rfl rfl) ?_)
 refine TL.cons (TO.val rfl rfl rfl (Val.convI Try.underlying3 Try.underlying109 rfl) ?_)
 refine TL.cons (TO.val rfl rfl rfl (Val.assign rfl) ?_)
 refine TL.nil ?_
 refine TQ.then_ ?_
 refine TC.seq ?_
 refine TC.seq ?_
 refine TC.region ?_
 refine TL.cons (TO.val rfl rfl rfl (Val.move rfl) ?_)
 refine TL.cons (TO.val rfl rfl rfl (Val.cmp rfl rfl run_eql) ?_)
 refine TL.nil ?_
 refine TQ.then_ ?_
 refine TC.cond_p rfl h (fun hc3 h => ?_) (fun hc3 h => ?_)
 ·
  refine TC.seq ?_
  refine TC.region ?_
  refine TL.cons (TO.val rfl rfl rfl (Val.move rfl) ?_)
  refine TL.cons (TO.val rfl rfl rfl (Val.move rfl) ?_)
  obtain ⟨hz4, h⟩ := ite_no h
  refine TL.cons (TO.val rfl rfl rfl (Val.shl rfl rfl hz4) ?_)
  refine TL.cons (TO.val rfl rfl rfl (Val.assign rfl) ?_)
  refine TL.nil ?_
  refine TQ.then_ ?_
  refine TC.ret ?_
  refine TQ.thenR ?_
  obtain rfl := Option.some.inj h
  exact TQ.fin (.inl rfl) rfl Try.results59 (.tmp rfl .nil) rfl (FRel.mk (Ls := []) [] 0 (Gd.le.refl _) rfl rfl rfl ⟨rfl, rfl, rfl⟩)
 ·
  refine TC.skip ?_
  refine TQ.then_ ?_
  refine TC.seq ?_
  refine TC.region ?_
  refine TL.cons (TO.val rfl rfl rfl (Val.move rfl) ?_)
  refine TL.cons (TO.val rfl rfl rfl (Val.move rfl) ?_)
  obtain ⟨hz5, h⟩ := ite_no h
  refine TL.cons (TO.val rfl rfl rfl (Val.shr rfl rfl hz5) ?_)
  refine TL.cons (TO.val rfl rfl rfl (Val.assign rfl) ?_)
  refine TL.nil ?_
  refine TQ.then_ ?_
  refine TC.ret ?_
  obtain rfl := Option.some.inj h
  exact TQ.fin (.inl rfl) rfl Try.results59 (.tmp rfl .nil) rfl (FRel.mk (Ls := []) [] 0 (Gd.le.refl _) rfl rfl rfl ⟨rfl, rfl, rfl⟩)
end Go.Proofs.Ytmacdhkfgoahcaa.Sy
set_option linter.unusedVariables false
set_option linter.unusedSimpArgs false
set_option maxRecDepth 100000
set_option maxHeartbeats 4000000
namespace Go.Proofs.Ytmacdhkfgoahcaa.Sy
open Go Go.RowKit Go.Proofs.YtmacdhkfgoahcaaW.PrintWords 
def cmp_isNaN_int.f (a0 : Int) : Option Bool := some (!decide (a0 = a0))
def cmp_isNaN_int.post (G : Gd)  (r : Bool) (v : Value) (G' : Gd) (Lr : List Ch) : Prop := G = G' ∧ v = .bool r ∧ Lr = []
theorem cmp_isNaN_int.calls {G : Gd} {r : Bool} {a0 : Int} (h : cmp_isNaN_int.f a0 = some r) : Fn Try.prog 99 G [] [.int .i64 a0] (cmp_isNaN_int.post G  r) := by
 refine Fn.intro (e := [(0, .int .i64 a0)]) 6 Try.func99 rfl Try.ntmps99 rfl rfl (Nat.le_of_ble_eq_true rfl) (fun L => ?_)
 unfold cmp_isNaN_int.f at h
 refine TC.seq ?_
 refine TC.region ?_
 refine TL.cons (TO.val rfl rfl rfl (Val.assign rfl) ?_)
 refine TL.nil ?_
 refine TQ.then_ ?_
 refine TC.seq ?_
 refine TC.region ?_
 refine TL.cons (TO.val rfl rfl rfl (Val.move rfl) ?_)
 refine TL.cons (TO.val rfl rfl rfl (Val.move rfl) ?_)
 refine TL.cons (TO.val rfl rfl rfl (Val.cmp rfl rfl run_neq) ?_)
 refine TL.cons (TO.val rfl rfl rfl (Val.assign rfl) ?_)
 refine TL.nil ?_
 refine TQ.then_ ?_
 refine TC.ret ?_
 obtain rfl := Option.some.inj h
 exact TQ.fin (.inl rfl) rfl Try.results99 (.tmp rfl .nil) rfl (FRel.mk (Ls := []) [] 0 (Gd.le.refl _) rfl rfl rfl ⟨rfl, rfl, rfl⟩)
end Go.Proofs.Ytmacdhkfgoahcaa.Sy
set_option linter.unusedVariables false
set_option linter.unusedSimpArgs false
set_option maxRecDepth 100000
set_option maxHeartbeats 4000000
namespace Go.Proofs.Ytmacdhkfgoahcaa.Sy
open Go Go.RowKit Go.Proofs.YtmacdhkfgoahcaaW.PrintWords 
def cmp_Compare_int.f (a0 : Int) (a1 : Int) : Option Int := (cmp_isNaN_int.f a0).bind fun (y1 : Bool) => (cmp_isNaN_int.f a1).bind fun (y3 : Bool) => (if y1 = true then (if y3 = true then some 0 else some (-1)) else (if y3 = true then some 1 else (if a0 < a1 then some (-1) else (if a1 < a0 then some 1 else some 0))))
def cmp_Compare_int.post (G : Gd)  (r : Int) (v : Value) (G' : Gd) (Lr : List Ch) : Prop := G = G' ∧ v = .int .i64 r ∧ Lr = []
theorem cmp_Compare_int.calls {G : Gd} {r : Int} {a0 : Int} {a1 : Int} (h : cmp_Compare_int.f a0 a1 = some r) : Fn Try.prog 94 G [] [.int .i64 a0, .int .i64 a1] (cmp_Compare_int.post G  r) := by
 refine Fn.intro (e := [(0, .int .i64 a0), (1, .int .i64 a1)]) 20 Try.func94 rfl Try.ntmps94 rfl rfl (Nat.le_of_ble_eq_true rfl) (fun L => ?_)
 unfold cmp_Compare_int.f at h
 refine TC.seq ?_
 refine TC.region ?_
 refine TL.cons (TO.val rfl rfl rfl (Val.assign rfl) ?_)
 refine TL.nil ?_
 refine TQ.then_ ?_
 refine TC.seq ?_
 refine TC.region ?_
 refine TL.cons (TO.val rfl rfl rfl (Val.move rfl) ?_)
 obtain ⟨y1, hy2, h⟩ := bind_no h
 refine TL.cons (TL.callV (Lin := []) (args := [.int .i64 a0]) rfl rfl rfl hbd99 rfl rfl (cmp_isNaN_int.calls (a0 := a0) hy2) rfl ?_)
 rintro _ _ _ _ ⟨rfl, rfl, rfl⟩
 refine TL.cons (TO.val rfl rfl rfl (Val.assign rfl) ?_)
 refine TL.nil ?_
 refine TQ.then_ ?_
 refine TC.seq ?_
 refine TC.region ?_
 refine TL.cons (TO.val rfl rfl rfl (Val.move rfl) ?_)
 obtain ⟨y3, hy4, h⟩ := bind_no h
 refine TL.cons (TL.callV (Lin := []) (args := [.int .i64 a1]) rfl rfl rfl hbd99 rfl rfl (cmp_isNaN_int.calls (a0 := a1) hy4) rfl ?_)
 rintro _ _ _ _ ⟨rfl, rfl, rfl⟩
 refine TL.cons (TO.val rfl rfl rfl (Val.assign rfl) ?_)
 refine TL.nil ?_
 refine TQ.then_ ?_
 refine TC.seq ?_
 refine TC.seq ?_
 refine TC.region ?_
 refine TL.cons (TO.val rfl rfl rfl (Val.move rfl) ?_)
 refine TL.nil ?_
 refine TQ.then_ ?_
 refine TC.cond_b rfl h (fun hc8 h => ?_) (fun hc8 h => ?_)
 ·
  refine TC.seq ?_
  refine TC.seq ?_
  refine TC.region ?_
  refine TL.cons (TO.val rfl rfl rfl (Val.move rfl) ?_)
  refine TL.nil ?_
  refine TQ.then_ ?_
  refine TC.cond_b rfl h (fun hc10 h => ?_) (fun hc10 h => ?_)
  ·
   refine TC.seq ?_
   refine TC.region ?_
   refine TL.cons (TO.val rfl rfl rfl (Val.assign rfl) ?_)
   refine TL.nil ?_
   refine TQ.then_ ?_
   refine TC.ret ?_
   refine TQ.thenR ?_
   refine TQ.thenR ?_
   obtain rfl := Option.some.inj h
   exact TQ.fin (.inl rfl) rfl Try.results94 (.tmp rfl .nil) rfl (FRel.mk (Ls := []) [] 0 (Gd.le.refl _) rfl rfl rfl ⟨rfl, rfl, rfl⟩)
  ·
   refine TC.skip ?_
   refine TQ.then_ ?_
   refine TC.seq ?_
   refine TC.region ?_
   refine TL.cons (TO.val rfl rfl rfl (Val.assign rfl) ?_)
   refine TL.nil ?_
   refine TQ.then_ ?_
   refine TC.ret ?_
   refine TQ.thenR ?_
   obtain rfl := Option.some.inj h
   exact TQ.fin (.inl rfl) rfl Try.results94 (.tmp rfl .nil) rfl (FRel.mk (Ls := []) [] 0 (Gd.le.refl _) rfl rfl rfl ⟨rfl, rfl, rfl⟩)
 ·
  refine TC.skip ?_
  refine TQ.then_ ?_
  refine TC.seq ?_
  refine TC.seq ?_
  refine TC.region ?_
  refine TL.cons (TO.val rfl rfl rfl (Val.move rfl) ?_)
  refine TL.nil ?_
  refine TQ.then_ ?_
  refine TC.cond_b rfl h (fun hc12 h => ?_) (fun hc12 h => ?_)
  ·
   refine TC.seq ?_
   refine TC.region ?_
   refine TL.cons (TO.val rfl rfl rfl (Val.assign rfl) ?_)
   refine TL.nil ?_
   refine TQ.then_ ?_
   refine TC.ret ?_
   refine TQ.thenR ?_
   obtain rfl := Option.some.inj h
   exact TQ.fin (.inl rfl) rfl Try.results94 (.tmp rfl .nil) rfl (FRel.mk (Ls := []) [] 0 (Gd.le.refl _) rfl rfl rfl ⟨rfl, rfl, rfl⟩)
  ·
   refine TC.skip ?_
   refine TQ.then_ ?_
   refine TC.seq ?_
   refine TC.seq ?_
   refine TC.region ?_
   refine TL.cons (TO.val rfl rfl rfl (Val.move rfl) ?_)
   refine TL.cons (TO.val rfl rfl rfl (Val.move rfl) ?_)
   refine TL.cons (TO.val rfl rfl rfl (Val.cmp rfl rfl run_lss) ?_)
   refine TL.nil ?_
   refine TQ.then_ ?_
   refine TC.cond_p rfl h (fun hc14 h => ?_) (fun hc14 h => ?_)
   ·
    refine TC.seq ?_
    refine TC.region ?_
    refine TL.cons (TO.val rfl rfl rfl (Val.assign rfl) ?_)
    refine TL.nil ?_
    refine TQ.then_ ?_
    refine TC.ret ?_
    refine TQ.thenR ?_
    obtain rfl := Option.some.inj h
    exact TQ.fin (.inl rfl) rfl Try.results94 (.tmp rfl .nil) rfl (FRel.mk (Ls := []) [] 0 (Gd.le.refl _) rfl rfl rfl ⟨rfl, rfl, rfl⟩)
   ·
    refine TC.skip ?_
    refine TQ.then_ ?_
    refine TC.seq ?_
    refine TC.seq ?_
    refine TC.region ?_
    refine TL.cons (TO.val rfl rfl rfl (Val.move rfl) ?_)
    refine TL.cons (TO.val rfl rfl rfl (Val.move rfl) ?_)
    refine TL.cons (TO.val rfl rfl rfl (Val.cmp rfl rfl run_gtr) ?_)
    refine TL.nil ?_
    refine TQ.then_ ?_
    refine TC.cond_p rfl h (fun hc16 h => ?_) (fun hc16 h => ?_)
    ·
     refine TC.seq ?_
     refine TC.region ?_
     refine TL.cons (TO.val rfl rfl rfl (Val.assign rfl) ?_)
     refine TL.nil ?_
     refine TQ.then_ ?_
     refine TC.ret ?_
     refine TQ.thenR ?_
     obtain rfl := Option.some.inj h
     exact TQ.fin (.inl rfl) rfl Try.results94 (.tmp rfl .nil) rfl (FRel.mk (Ls := []) [] 0 (Gd.le.refl _) rfl rfl rfl ⟨rfl, rfl, rfl⟩)
    ·
     refine TC.skip ?_
     refine TQ.then_ ?_
     refine TC.seq ?_
     refine TC.region ?_
     refine TL.cons (TO.val rfl rfl rfl (Val.assign rfl) ?_)
     refine TL.nil ?_
     refine TQ.then_ ?_
     refine TC.ret ?_
     obtain rfl := Option.some.inj h
     exact TQ.fin (.inl rfl) rfl Try.results94 (.tmp rfl .nil) rfl (FRel.mk (Ls := []) [] 0 (Gd.le.refl _) rfl rfl rfl ⟨rfl, rfl, rfl⟩)
end Go.Proofs.Ytmacdhkfgoahcaa.Sy
set_option linter.unusedVariables false
set_option linter.unusedSimpArgs false
set_option maxRecDepth 100000
set_option maxHeartbeats 4000000
namespace Go.Proofs.Ytmacdhkfgoahcaa.Sy
open Go Go.RowKit Go.Proofs.YtmacdhkfgoahcaaW.PrintWords 
def word_flag.f (a0 : Bool) : Option Int := (if a0 = true then some 1 else some 0)
def word_flag.post (G : Gd)  (r : Int) (v : Value) (G' : Gd) (Lr : List Ch) : Prop := G = G' ∧ v = .int .i64 r ∧ Lr = []
theorem word_flag.calls {G : Gd} {r : Int} {a0 : Bool} (h : word_flag.f a0 = some r) : Fn Try.prog 95 G [] [.bool a0] (word_flag.post G  r) := by
 refine Fn.intro (e := [(0, .bool a0)]) 4 Try.func95 rfl Try.ntmps95 rfl rfl (Nat.le_of_ble_eq_true rfl) (fun L => ?_)
 unfold word_flag.f at h
 refine TC.seq ?_
 refine TC.region ?_
 refine TL.cons (TO.val rfl rfl rfl (Val.assign rfl) ?_)
 refine TL.nil ?_
 refine TQ.then_ ?_
 refine TC.seq ?_
 refine TC.seq ?_
 refine TC.region ?_
 refine TL.cons (TO.val rfl rfl rfl (Val.move rfl) ?_)
 refine TL.nil ?_
 refine TQ.then_ ?_
 refine TC.cond_b rfl h (fun hc2 h => ?_) (fun hc2 h => ?_)
 ·
  refine TC.seq ?_
  refine TC.region ?_
  refine TL.cons (TO.val rfl rfl rfl (Val.assign rfl) ?_)
  refine TL.nil ?_
  refine TQ.then_ ?_
  refine TC.ret ?_
  refine TQ.thenR ?_
  obtain rfl := Option.some.inj h
  exact TQ.fin (.inl rfl) rfl Try.results95 (.tmp rfl .nil) rfl (FRel.mk (Ls := []) [] 0 (Gd.le.refl _) rfl rfl rfl ⟨rfl, rfl, rfl⟩)
 ·
  refine TC.skip ?_
  refine TQ.then_ ?_
  refine TC.seq ?_
  refine TC.region ?_
  refine TL.cons (TO.val rfl rfl rfl (Val.assign rfl) ?_)
  refine TL.nil ?_
  refine TQ.then_ ?_
  refine TC.ret ?_
  obtain rfl := Option.some.inj h
  exact TQ.fin (.inl rfl) rfl Try.results95 (.tmp rfl .nil) rfl (FRel.mk (Ls := []) [] 0 (Gd.le.refl _) rfl rfl rfl ⟨rfl, rfl, rfl⟩)
end Go.Proofs.Ytmacdhkfgoahcaa.Sy
set_option linter.unusedVariables false
set_option linter.unusedSimpArgs false
set_option maxRecDepth 100000
set_option maxHeartbeats 4000000
namespace Go.Proofs.Ytmacdhkfgoahcaa.Sy
open Go Go.RowKit Go.Proofs.YtmacdhkfgoahcaaW.PrintWords 
def word_ordered_int.f (a0 : Int) (a1 : Int) (a2 : Int) : Option Int := (cmp_Compare_int.f a1 a2).bind fun (y1 : Int) => (if a0 = 11 then (word_flag.f (decide (y1 < 0))).bind fun (y40 : Int) => some y40 else (if a0 = 12 then (word_flag.f (decide (y1 ≤ 0))).bind fun (y49 : Int) => some y49 else (if a0 = 13 then (word_flag.f (decide (y1 = 0))).bind fun (y55 : Int) => some y55 else (word_flag.f (!decide (y1 = 0))).bind fun (y57 : Int) => some y57)))
def word_ordered_int.post (G : Gd)  (r : Int) (v : Value) (G' : Gd) (Lr : List Ch) : Prop := G = G' ∧ v = .int .i64 r ∧ Lr = []
theorem word_ordered_int.calls {G : Gd} {r : Int} {a0 : Int} {a1 : Int} {a2 : Int} (h : word_ordered_int.f a0 a1 a2 = some r) : Fn Try.prog 83 G [] [.int .i64 a0, .int .i64 a1, .int .i64 a2] (word_ordered_int.post G  r) := by
 refine Fn.intro (e := [(0, .int .i64 a0), (1, .int .i64 a1), (2, .int .i64 a2)]) 30 Try.func83 rfl Try.ntmps83 rfl rfl (Nat.le_of_ble_eq_true rfl) (fun L => ?_)
 unfold word_ordered_int.f at h
 refine TC.seq ?_
 refine TC.region ?_
 refine TL.cons (TO.val rfl rfl rfl (Val.assign rfl) ?_)
 refine TL.nil ?_
 refine TQ.then_ ?_
 refine TC.seq ?_
 refine TC.region ?_
 refine TL.cons (TO.val rfl rfl rfl (Val.move rfl) ?_)
 refine TL.cons (TO.val rfl rfl rfl (Val.move rfl) ?_)
 obtain ⟨y1, hy2, h⟩ := bind_no h
 refine TL.cons (TL.callV (Lin := []) (args := [.int .i64 a1, .int .i64 a2]) rfl rfl rfl hbd94 rfl rfl (cmp_Compare_int.calls (a0 := a1) (a1 := a2) hy2) rfl ?_)
 rintro _ _ _ _ ⟨rfl, rfl, rfl⟩
 refine TL.cons (TO.val rfl rfl rfl (Val.assign rfl) ?_)
 refine TL.nil ?_
 refine TQ.then_ ?_
 refine TC.seq ?_
 refine TC.seq ?_
 refine TC.region ?_
 refine TL.cons (TO.val rfl rfl rfl (Val.move rfl) ?_)
 refine TL.nil ?_
 refine TQ.then_ ?_
 refine TC.block ?_
 refine TC.seq ?_
 refine TC.region ?_
 refine TL.cons (TO.val rfl rfl rfl (Val.cmp rfl rfl run_eql) ?_)
 refine TL.cons (TO.val rfl rfl rfl (Val.assign rfl) ?_)
 refine TL.nil ?_
 refine TQ.then_ ?_
 refine TC.cond_p rfl h (fun hc39 h => ?_) (fun hc39 h => ?_)
 ·
  refine TC.seq ?_
  refine TC.region ?_
  refine TL.cons (TO.val rfl rfl rfl (Val.move rfl) ?_)
  refine TL.cons (TO.val rfl rfl rfl (Val.cmp rfl rfl run_lss) ?_)
  obtain ⟨y40, hy41, h⟩ := bind_no h
  refine TL.cons (TL.callV (Lin := []) (args := [.bool (decide (y1 < 0))]) rfl rfl rfl hbd95 rfl rfl (word_flag.calls (a0 := decide (y1 < 0)) hy41) rfl ?_)
  rintro _ _ _ _ ⟨rfl, rfl, rfl⟩
  refine TL.cons (TO.val rfl rfl rfl (Val.assign rfl) ?_)
  refine TL.nil ?_
  refine TQ.then_ ?_
  refine TC.ret ?_
  refine TQ.inBR ?_
  refine TQ.thenR ?_
  obtain rfl := Option.some.inj h
  exact TQ.fin (.inl rfl) rfl Try.results83 (.tmp rfl .nil) rfl (FRel.mk (Ls := []) [] 0 (Gd.le.refl _) rfl rfl rfl ⟨rfl, rfl, rfl⟩)
 ·
  refine TC.seq ?_
  refine TC.region ?_
  refine TL.cons (TO.val rfl rfl rfl (Val.cmp rfl rfl run_eql) ?_)
  refine TL.cons (TO.val rfl rfl rfl (Val.assign rfl) ?_)
  refine TL.nil ?_
  refine TQ.then_ ?_
  refine TC.cond_p rfl h (fun hc48 h => ?_) (fun hc48 h => ?_)
  ·
   refine TC.seq ?_
   refine TC.region ?_
   refine TL.cons (TO.val rfl rfl rfl (Val.move rfl) ?_)
   refine TL.cons (TO.val rfl rfl rfl (Val.cmp rfl rfl run_leq) ?_)
   obtain ⟨y49, hy50, h⟩ := bind_no h
   refine TL.cons (TL.callV (Lin := []) (args := [.bool (decide (y1 ≤ 0))]) rfl rfl rfl hbd95 rfl rfl (word_flag.calls (a0 := decide (y1 ≤ 0)) hy50) rfl ?_)
   rintro _ _ _ _ ⟨rfl, rfl, rfl⟩
   refine TL.cons (TO.val rfl rfl rfl (Val.assign rfl) ?_)
   refine TL.nil ?_
   refine TQ.then_ ?_
   refine TC.ret ?_
   refine TQ.inBR ?_
   refine TQ.thenR ?_
   obtain rfl := Option.some.inj h
   exact TQ.fin (.inl rfl) rfl Try.results83 (.tmp rfl .nil) rfl (FRel.mk (Ls := []) [] 0 (Gd.le.refl _) rfl rfl rfl ⟨rfl, rfl, rfl⟩)
  ·
   refine TC.seq ?_
   refine TC.region ?_
   refine TL.cons (TO.val rfl rfl rfl (Val.cmp rfl rfl run_eql) ?_)
   refine TL.cons (TO.val rfl rfl rfl (Val.assign rfl) ?_)
   refine TL.nil ?_
   refine TQ.then_ ?_
   refine TC.cond_p rfl h (fun hc54 h => ?_) (fun hc54 h => ?_)
   ·
    refine TC.seq ?_
    refine TC.region ?_
    refine TL.cons (TO.val rfl rfl rfl (Val.move rfl) ?_)
    refine TL.cons (TO.val rfl rfl rfl (Val.cmp rfl rfl run_eql) ?_)
    obtain ⟨y55, hy56, h⟩ := bind_no h
    refine TL.cons (TL.callV (Lin := []) (args := [.bool (decide (y1 = 0))]) rfl rfl rfl hbd95 rfl rfl (word_flag.calls (a0 := decide (y1 = 0)) hy56) rfl ?_)
    rintro _ _ _ _ ⟨rfl, rfl, rfl⟩
    refine TL.cons (TO.val rfl rfl rfl (Val.assign rfl) ?_)
    refine TL.nil ?_
    refine TQ.then_ ?_
    refine TC.ret ?_
    refine TQ.inBR ?_
    refine TQ.thenR ?_
    obtain rfl := Option.some.inj h
    exact TQ.fin (.inl rfl) rfl Try.results83 (.tmp rfl .nil) rfl (FRel.mk (Ls := []) [] 0 (Gd.le.refl _) rfl rfl rfl ⟨rfl, rfl, rfl⟩)
   ·
    refine TC.skip ?_
    refine TQ.inB ?_
    refine TQ.then_ ?_
    refine TC.seq ?_
    refine TC.region ?_
    refine TL.cons (TO.val rfl rfl rfl (Val.move rfl) ?_)
    refine TL.cons (TO.val rfl rfl rfl (Val.cmp rfl rfl run_neq) ?_)
    obtain ⟨y57, hy58, h⟩ := bind_no h
    refine TL.cons (TL.callV (Lin := []) (args := [.bool (!decide (y1 = 0))]) rfl rfl rfl hbd95 rfl rfl (word_flag.calls (a0 := (!decide (y1 = 0))) hy58) rfl ?_)
    rintro _ _ _ _ ⟨rfl, rfl, rfl⟩
    refine TL.cons (TO.val rfl rfl rfl (Val.assign rfl) ?_)
    refine TL.nil ?_
    refine TQ.then_ ?_
    refine TC.ret ?_
    obtain rfl := Option.some.inj h
    exact TQ.fin (.inl rfl) rfl Try.results83 (.tmp rfl .nil) rfl (FRel.mk (Ls := []) [] 0 (Gd.le.refl _) rfl rfl rfl ⟨rfl, rfl, rfl⟩)
end Go.Proofs.Ytmacdhkfgoahcaa.Sy
set_option linter.unusedVariables false
set_option linter.unusedSimpArgs false
set_option maxRecDepth 100000
set_option maxHeartbeats 4000000
namespace Go.Proofs.Ytmacdhkfgoahcaa.Sy
open Go Go.RowKit Go.Proofs.YtmacdhkfgoahcaaW.PrintWords 
def word_plain.f (a0 : Int) (a1 : Int) (a2 : Int) : Option Int := (if a0 = 1 then some (IntKind.i64.wrap (a1 + a2)) else (if a0 = 2 then some (IntKind.i64.wrap (a1 - a2)) else (if a0 = 3 then some (IntKind.i64.wrap (a1 * a2)) else (if a0 = 6 then some (IntKind.i64.wrap (BitVec.ofInt IntKind.i64.bits a1 &&& BitVec.ofInt IntKind.i64.bits a2).toNat) else (if a0 = 7 then some (IntKind.i64.wrap (BitVec.ofInt IntKind.i64.bits a1 ||| BitVec.ofInt IntKind.i64.bits a2).toNat) else (if a0 = 8 then some (IntKind.i64.wrap (BitVec.ofInt IntKind.i64.bits a1 ^^^ BitVec.ofInt IntKind.i64.bits a2).toNat) else (word_ordered_int.f a0 a1 a2).bind fun (y55 : Int) => some y55))))))
def word_plain.post (G : Gd)  (r : Int) (v : Value) (G' : Gd) (Lr : List Ch) : Prop := G = G' ∧ v = .int .i64 r ∧ Lr = []
theorem word_plain.calls {G : Gd} {r : Int} {a0 : Int} {a1 : Int} {a2 : Int} (h : word_plain.f a0 a1 a2 = some r) : Fn Try.prog 60 G [] [.int .i64 a0, .int .i64 a1, .int .i64 a2] (word_plain.post G  r) := by
 refine Fn.intro (e := [(0, .int .i64 a0), (1, .int .i64 a1), (2, .int .i64 a2)]) 42 Try.func60 rfl Try.ntmps60 rfl rfl (Nat.le_of_ble_eq_true rfl) (fun L => ?_)
 unfold word_plain.f at h
 refine TC.seq ?_
 refine TC.region ?_
 refine TL.cons (TO.val rfl rfl rfl (Val.assign rfl) ?_)
 refine TL.nil ?_
 refine TQ.then_ ?_
 refine TC.seq ?_
 refine TC.seq ?_
 refine TC.region ?_
 refine TL.cons (TO.val rfl rfl rfl (Val.move rfl) ?_)
 refine TL.nil ?_
 refine TQ.then_ ?_
 refine TC.block ?_
 refine TC.seq ?_
 refine TC.region ?_
 refine TL.cons (TO.val rfl rfl rfl (Val.cmp rfl rfl run_eql) ?_)
 refine TL.cons (TO.val rfl rfl rfl (Val.assign rfl) ?_)
 refine TL.nil ?_
 refine TQ.then_ ?_
 refine TC.cond_p rfl h (fun hc34 h => ?_) (fun hc34 h => ?_)
 ·
  refine TC.seq ?_
  refine TC.region ?_
  refine TL.cons (TO.val rfl rfl rfl (Val.move rfl) ?_)
  refine TL.cons (TO.val rfl rfl rfl (Val.move rfl) ?_)
  refine TL.cons (TO.val rfl rfl rfl (Val.cmp rfl rfl run_add) ?_)
  refine TL.cons (TO.val rfl rfl rfl (Val.assign rfl) ?_)
  refine TL.nil ?_
  refine TQ.then_ ?_
  refine TC.ret ?_
  refine TQ.inBR ?_
  refine TQ.thenR ?_
  obtain rfl := Option.some.inj h
  exact TQ.fin (.inl rfl) rfl Try.results60 (.tmp rfl .nil) rfl (FRel.mk (Ls := []) [] 0 (Gd.le.refl _) rfl rfl rfl ⟨rfl, rfl, rfl⟩)
 ·
  refine TC.seq ?_
  refine TC.region ?_
  refine TL.cons (TO.val rfl rfl rfl (Val.cmp rfl rfl run_eql) ?_)
  refine TL.cons (TO.val rfl rfl rfl (Val.assign rfl) ?_)
  refine TL.nil ?_
  refine TQ.then_ ?_
  refine TC.cond_p rfl h (fun hc40 h => ?_) (fun hc40 h => ?_)
  ·
   refine TC.seq ?_
   refine TC.region ?_
   refine TL.cons (TO.val rfl rfl rfl (Val.move rfl) ?_)
   refine TL.cons (TO.val rfl rfl rfl (Val.move rfl) ?_)
   refine TL.cons (TO.val rfl rfl rfl (Val.cmp rfl rfl run_sub) ?_)
   refine TL.cons (TO.val rfl rfl rfl (Val.assign rfl) ?_)
   refine TL.nil ?_
   refine TQ.then_ ?_
   refine TC.ret ?_
   refine TQ.inBR ?_
   refine TQ.thenR ?_
   obtain rfl := Option.some.inj h
   exact TQ.fin (.inl rfl) rfl Try.results60 (.tmp rfl .nil) rfl (FRel.mk (Ls := []) [] 0 (Gd.le.refl _) rfl rfl rfl ⟨rfl, rfl, rfl⟩)
  ·
   refine TC.seq ?_
   refine TC.region ?_
   refine TL.cons (TO.val rfl rfl rfl (Val.cmp rfl rfl run_eql) ?_)
   refine TL.cons (TO.val rfl rfl rfl (Val.assign rfl) ?_)
   refine TL.nil ?_
   refine TQ.then_ ?_
   refine TC.cond_p rfl h (fun hc45 h => ?_) (fun hc45 h => ?_)
   ·
    refine TC.seq ?_
    refine TC.region ?_
    refine TL.cons (TO.val rfl rfl rfl (Val.move rfl) ?_)
    refine TL.cons (TO.val rfl rfl rfl (Val.move rfl) ?_)
    refine TL.cons (TO.val rfl rfl rfl (Val.cmp rfl rfl run_mul) ?_)
    refine TL.cons (TO.val rfl rfl rfl (Val.assign rfl) ?_)
    refine TL.nil ?_
    refine TQ.then_ ?_
    refine TC.ret ?_
    refine TQ.inBR ?_
    refine TQ.thenR ?_
    obtain rfl := Option.some.inj h
    exact TQ.fin (.inl rfl) rfl Try.results60 (.tmp rfl .nil) rfl (FRel.mk (Ls := []) [] 0 (Gd.le.refl _) rfl rfl rfl ⟨rfl, rfl, rfl⟩)
   ·
    refine TC.seq ?_
    refine TC.region ?_
    refine TL.cons (TO.val rfl rfl rfl (Val.cmp rfl rfl run_eql) ?_)
    refine TL.cons (TO.val rfl rfl rfl (Val.assign rfl) ?_)
    refine TL.nil ?_
    refine TQ.then_ ?_
    refine TC.cond_p rfl h (fun hc49 h => ?_) (fun hc49 h => ?_)
    ·
     refine TC.seq ?_
     refine TC.region ?_
     refine TL.cons (TO.val rfl rfl rfl (Val.move rfl) ?_)
     refine TL.cons (TO.val rfl rfl rfl (Val.move rfl) ?_)
     refine TL.cons (TO.val rfl rfl rfl (Val.cmp rfl rfl run_and) ?_)
     refine TL.cons (TO.val rfl rfl rfl (Val.assign rfl) ?_)
     refine TL.nil ?_
     refine TQ.then_ ?_
     refine TC.ret ?_
     refine TQ.inBR ?_
     refine TQ.thenR ?_
     obtain rfl := Option.some.inj h
     exact TQ.fin (.inl rfl) rfl Try.results60 (.tmp rfl .nil) rfl (FRel.mk (Ls := []) [] 0 (Gd.le.refl _) rfl rfl rfl ⟨rfl, rfl, rfl⟩)
    ·
     refine TC.seq ?_
     refine TC.region ?_
     refine TL.cons (TO.val rfl rfl rfl (Val.cmp rfl rfl run_eql) ?_)
     refine TL.cons (TO.val rfl rfl rfl (Val.assign rfl) ?_)
     refine TL.nil ?_
     refine TQ.then_ ?_
     refine TC.cond_p rfl h (fun hc52 h => ?_) (fun hc52 h => ?_)
     ·
      refine TC.seq ?_
      refine TC.region ?_
      refine TL.cons (TO.val rfl rfl rfl (Val.move rfl) ?_)
      refine TL.cons (TO.val rfl rfl rfl (Val.move rfl) ?_)
      refine TL.cons (TO.val rfl rfl rfl (Val.cmp rfl rfl run_or) ?_)
      refine TL.cons (TO.val rfl rfl rfl (Val.assign rfl) ?_)
      refine TL.nil ?_
      refine TQ.then_ ?_
      refine TC.ret ?_
      refine TQ.inBR ?_
      refine TQ.thenR ?_
      obtain rfl := Option.some.inj h
      exact TQ.fin (.inl rfl) rfl Try.results60 (.tmp rfl .nil) rfl (FRel.mk (Ls := []) [] 0 (Gd.le.refl _) rfl rfl rfl ⟨rfl, rfl, rfl⟩)
     ·
      refine TC.seq ?_
      refine TC.region ?_
      refine TL.cons (TO.val rfl rfl rfl (Val.cmp rfl rfl run_eql) ?_)
      refine TL.cons (TO.val rfl rfl rfl (Val.assign rfl) ?_)
      refine TL.nil ?_
      refine TQ.then_ ?_
      refine TC.cond_p rfl h (fun hc54 h => ?_) (fun hc54 h => ?_)
      ·
       refine TC.seq ?_
       refine TC.region ?_
       refine TL.cons (TO.val rfl rfl rfl (Val.move rfl) ?_)
       refine TL.cons (TO.val rfl rfl rfl (Val.move rfl) ?_)
       refine TL.cons (TO.val rfl rfl rfl (Val.cmp rfl rfl run_xor) ?_)
       refine TL.cons (TO.val rfl rfl rfl (Val.assign rfl) ?_)
       refine TL.nil ?_
       refine TQ.then_ ?_
       refine TC.ret ?_
       refine TQ.inBR ?_
       refine TQ.thenR ?_
       obtain rfl := Option.some.inj h
       exact TQ.fin (.inl rfl) rfl Try.results60 (.tmp rfl .nil) rfl (FRel.mk (Ls := []) [] 0 (Gd.le.refl _) rfl rfl rfl ⟨rfl, rfl, rfl⟩)
      ·
       refine TC.skip ?_
       refine TQ.inB ?_
       refine TQ.then_ ?_
       refine TC.seq ?_
       refine TC.region ?_
       refine TL.cons (TO.val rfl rfl rfl (Val.move rfl) ?_)
       refine TL.cons (TO.val rfl rfl rfl (Val.move rfl) ?_)
       refine TL.cons (TO.val rfl rfl rfl (Val.move rfl) ?_)
       obtain ⟨y55, hy56, h⟩ := bind_no h
       refine TL.cons (TL.callV (Lin := []) (args := [.int .i64 a0, .int .i64 a1, .int .i64 a2]) rfl rfl rfl hbd83 rfl rfl (word_ordered_int.calls (a0 := a0) (a1 := a1) (a2 := a2) hy56) rfl ?_)
       rintro _ _ _ _ ⟨rfl, rfl, rfl⟩
       refine TL.cons (TO.val rfl rfl rfl (Val.assign rfl) ?_)
       refine TL.nil ?_
       refine TQ.then_ ?_
       refine TC.ret ?_
       obtain rfl := Option.some.inj h
       exact TQ.fin (.inl rfl) rfl Try.results60 (.tmp rfl .nil) rfl (FRel.mk (Ls := []) [] 0 (Gd.le.refl _) rfl rfl rfl ⟨rfl, rfl, rfl⟩)
end Go.Proofs.Ytmacdhkfgoahcaa.Sy
