/- Texts of this work, joined: ThD. -/
import Derived.Test.YtfmocegnpmomnaaSyNForwardRunse
set_option linter.unusedVariables false
set_option linter.unusedSimpArgs false
namespace Go.Proofs.Ytfmocegnpmomnaa.Sy
open Go Go.RowKit Go.Proofs.YtfmocegnpmomnaaW.PrintWords Go.Proofs.Ytfmocegnpmomnaa.SyO
def BlockW (l m : List S45) (fl : Int) (n : Nat) : Prop := ∀ B s u (z z' : Nat) b b' r r', Iv B fl s → Iv B fl u → Rs s u → B ≤ 90000 → b.f0.length ≤ 250 → (∀ o ∈ b.f0, Oz z o ∧ Oc l o ∧ okOp o 256 = true) → (∀ o ∈ b'.f0, Oz z' o ∧ Oc m o) → FW [] qnil b.f0 b'.f0 → r.length = z + 1 → r'.length = z' + 1 → Ag r r' → 3 * (1000 - s.d) + 3 ≤ (n : Int) → ∃ e s' u' r1 r2, Bf n l fl s b r = some (tb e s' r1) ∧ Bf n m fl u b' r' = some (tb e u' r2) ∧ Iv B fl s' ∧ Iv B fl u' ∧ Gs 0 s s' ∧ Rs s' u' ∧ r1.length = z + 1 ∧ r2.length = z' + 1 ∧ (e = 0 → s'.f < s.f ∧ Ag r1 r2)
theorem Rs.less {s u : Ts} (h : Rs s u) : Rs (less s) (less u) := { h with f := by show u.f - 1 = s.f - 1; rw [h.f] }
theorem Rs.back {s u : Ts} (h : Rs s u) : Rs (back s) (back u) := { h with d := by show IntKind.i64.wrap (u.d - 1) = IntKind.i64.wrap (s.d - 1); rw [h.d] }
theorem blks_w {l m : List S45} {fl : Int} {n : Nat} (hV : ValueW l m fl n) {B d : Int} {z z' : Nat} {b b' : S42} (hB : B ≤ 90000) (hb : ∀ o ∈ b.f0, Oz z o ∧ Oc l o ∧ okOp o 256 = true) (hb' : ∀ o ∈ b'.f0, Oz z' o ∧ Oc m o) (hbl : b.f0.length ≤ 250) (hn : 3 * (1000 - d) + 2 ≤ (n : Int)) :
    ∀ (os qs : List S37) (N i : Nat) (kn : MqS) (s u : Ts) (r r' : List Int), b.f0.drop i = os → b'.f0.drop i = qs → FW [] kn os qs → Kg kn → os.length < N → Iv B fl s → Iv B fl u → Rs s u → s.d = d → r.length = z + 1 → r'.length = z' + 1 → Ag r r' → Km r s kn →
      (∃ e s' u' r1 r2, ¬ e = 0 ∧ Bl n l fl b N i s r = some (.inl (tb e s' r1)) ∧ Bl n m fl b' N i u r' = some (.inl (tb e u' r2)) ∧ Iv B fl s' ∧ Iv B fl u' ∧ Gs 0 s s' ∧ Rs s' u' ∧ r1.length = z + 1 ∧ r2.length = z' + 1) ∨
      (∃ s' u' r1 r2, Bl n l fl b N i s r = some (.inr (tr s' r1)) ∧ Bl n m fl b' N i u r' = some (.inr (tr u' r2)) ∧ Iv B fl s' ∧ Iv B fl u' ∧ Gs 0 s s' ∧ Rs s' u' ∧ r1.length = z + 1 ∧ r2.length = z' + 1 ∧ Ag r1 r2) := by
  intro os
  induction os with
  | nil =>
    intro qs N i kn s u r r' hd hd' hF hKg hN hI hJ hS hsd hr hr' hA hK
    cases qs with
    | cons q qs => exact hF.elim
    | nil =>
      obtain ⟨N, rfl⟩ : ∃ k, N = k + 1 := ⟨N - 1, by simp at hN; omega⟩
      refine .inr ⟨s, u, r, r', ?_, ?_, hI, hJ, Gs.refl s (by omega), hS, hr, hr', hA⟩
      · show trace_runner_block.l0 (trace_runner_call.fix n).2.2 l fl 0 b (N + 1) r i s.i s.f s.d s.o s.ld s.st s.c s.m s.h = _
        rw [trace_runner_block.l0, if_neg (drop_nil hd)]
      · show trace_runner_block.l0 (trace_runner_call.fix n).2.2 m fl 0 b' (N + 1) r' i u.i u.f u.d u.o u.ld u.st u.c u.m u.h = _
        rw [trace_runner_block.l0, if_neg (drop_nil hd')]
  | cons o os ih =>
    intro qs N i kn s u r r' hd hd' hF hKg hN hI hJ hS hsd hr hr' hA hK
    cases qs with
    | nil => exact hF.elim
    | cons q qs =>
      obtain ⟨zz, sr, hqf, hsr, hzz, hF'⟩ := hF
      obtain ⟨N, rfl⟩ : ∃ k, N = k + 1 := ⟨N - 1, by simp at hN; omega⟩
      obtain ⟨hlt, hat, hd2, hmem⟩ := drop_cons hd
      obtain ⟨hlt', hat', hd2', hmem'⟩ := drop_cons hd'
      obtain ⟨ho, hoc, hok⟩ := hb o hmem
      obtain ⟨hq, hqc⟩ := hb' q hmem'
      obtain ⟨hrw, hokq⟩ := rw_ok hKg hok
      rw [← hqf] at hrw hokq
      obtain rfl : sr = q.f1 := by have := sets_ok hokq; rw [hsr] at this; exact Option.some.inj this
      have hdst : q.f1 = o.f1 := by rcases hrw with rfl | ⟨_, v, _, rfl⟩ <;> rfl
      have hKg' := kg_step hKg hokq hzz
      have hw : IntKind.i64.wrap ((i : Int) + 1) = (i : Int) + 1 := by rw [w64 (by omega) (by omega)]
      have huf := hS.f
      by_cases hf : s.f < 1
      · exact .inl ⟨12, s, u, r, r', by decide, b_lo hlt hat hf, b_lo hlt' hat' (by omega), hI, hJ, Gs.refl s (by omega), hS, hr, hr'⟩
      · have hf1 : s.f ≤ 100000 := by have := hI.fB; omega
        obtain ⟨v, e, s', u', t1, t2, t3, t3', t4, t5, t6⟩ := hV (B - 1) (less s) (less u) z z' o q r r' kn zz (hI.less hf) (hJ.less (by omega)) hS.less (by omega) ho hoc hq hqc hr hr' hA hK hok hokq hqf hzz (by show 3 * (1000 - s.d) + 2 ≤ (n : Int); omega)
        have hI' : Iv B fl s' := by have := t3; rwa [Int.sub_add_cancel] at this
        have hJ' : Iv B fl u' := by have := t3'; rwa [Int.sub_add_cancel] at this
        have hG : Gs 0 s s' := (Gs.less s).trans t4
        by_cases he : e = 0
        · subst he
          have h0 := dst0 ho.ro
          have h1 := ho.dst
          have hq1 := hq.dst
          have hlr : (r.length : Int) = z + 1 := by omega
          have hlr' : (r'.length : Int) = z' + 1 := by omega
          have g1 := b_go (n := n) (l := l) (fl := fl) (b := b) (N := N) hlt hat hw hf hf1 t1 h0 (by omega)
          have g2 := b_go (n := n) (l := m) (fl := fl) (b := b') (N := N) hlt' hat' hw (show ¬ u.f < 1 by omega) (by omega) t2 (by omega) (by omega)
          have hKr := t6 rfl
          rw [hdst] at g2
          have c1 : (i : Int) + 1 = ((i + 1 : Nat) : Int) := by omega
          have hlen1 : (if o.f1 = 0 then r else r.set o.f1.toNat v).length = z + 1 := by split <;> simp [hr]
          have hlen2 : (if o.f1 = 0 then r' else r'.set o.f1.toNat v).length = z' + 1 := by split <;> simp [hr']
          have hA2 : Ag (if o.f1 = 0 then r else r.set o.f1.toNat v) (if o.f1 = 0 then r' else r'.set o.f1.toNat v) := by
            by_cases h : o.f1 = 0
            · rw [if_pos h, if_pos h]; exact hA
            · rw [if_neg h, if_neg h]; exact ag_set hA h0 (by omega) (by omega)
          have hrec := ih qs N (i + 1) zz s' u' _ _ hd2 hd2' hF' hKg' (by simp at hN; omega) hI' hJ' t5 (hG.d.trans hsd) hlen1 hlen2 hA2 hKr
          rw [c1] at g1 g2
          rw [g1, g2]
          rcases hrec with ⟨e, s2, u2, r1, r2, q0, q1, q2, q3, q4, q5, q6⟩ | ⟨s2, u2, r1, r2, q1, q2, q3, q4, q5, q6⟩
          · exact .inl ⟨e, s2, u2, r1, r2, q0, q1, q2, q3, q4, hG.trans q5, q6⟩
          · exact .inr ⟨s2, u2, r1, r2, q1, q2, q3, q4, hG.trans q5, q6⟩
        · exact .inl ⟨e, s', u', r, r', he, b_hi hlt hat hf hf1 t1 he, b_hi hlt' hat' (show ¬ u.f < 1 by omega) (by omega) t2 he, hI', hJ', hG, t5, hr, hr'⟩
theorem block_w {l m : List S45} {fl : Int} {n : Nat} (hV : ValueW l m fl n) : BlockW l m fl (n + 1) := by
  intro B s u z z' b b' r r' hI hJ hS hB hbl hb hb' hF hr hr' hA hn
  have hlen := hF.len
  rcases blks_w hV (d := s.d) hB hb hb' hbl (by omega) b.f0 b'.f0 (b.f0.length + 1) 0 qnil s u r r' (by simp) (by simp) hF (fun a v h => by cases h) (by omega) hI hJ hS rfl hr hr' hA (km_nil r s) with ⟨e, s', u', r1, r2, q0, q1, q2, q3, q4, q5, q6, q7, q8⟩ | ⟨s', u', r1, r2, q1, q2, q3, q4, q5, q6, q7, q8, q9⟩
  · rw [← hlen] at q2
    exact ⟨e, s', u', r1, r2, bf_l q1, bf_l q2, q3, q4, q5, q6, q7, q8, fun h => absurd h q0⟩
  · rw [← hlen] at q2
    have huf := q6.f
    by_cases hf : s'.f < 1
    · exact ⟨12, s', u', r1, r2, bf_lo q1 hf, bf_lo q2 (by omega), q3, q4, q5, q6, q7, q8, fun h => absurd h (by decide)⟩
    · have hf1 : s'.f ≤ 100000 := by have := q3.fB; omega
      have hl := q3.less hf
      have hl' := q4.less (show ¬ u'.f < 1 by omega)
      exact ⟨0, less s', less u', r1, r2, bf_hi q1 hf hf1, bf_hi q2 (by omega) (by omega), { hl with pot := by have := hl.pot; omega }, { hl' with pot := by have := hl'.pot; omega }, { (q5.trans (Gs.less s')) with pot := by have := (q5.trans (Gs.less s')).pot; omega }, q6.less, q7, q8, fun _ => ⟨by have := q5.f; show s'.f - 1 < s.f; omega, q9⟩⟩
theorem term_w {t : S40} {r r' : List Int} (hA : Ag r r') (hz : (t.f0 = 2 ∨ t.f0 = 3) → 0 ≤ t.f1 ∧ t.f1 < (r.length : Int)) (hz' : (t.f0 = 2 ∨ t.f0 = 3) → t.f1 < (r'.length : Int)) (hk : t.f0 = 1 ∨ t.f0 = 2 ∨ t.f0 = 3 ∨ t.f0 = 4) : Tm t r = Tm t r' := by
  unfold Tm
  rcases hk with h | h | h | h
  · simp [h]
  · obtain ⟨y, hy⟩ := at_ok (r := r) (i := t.f1) (hz (.inl h)).1 (hz (.inl h)).2
    simp [h, hy, ag_at hA hy (hz (.inl h)).1 (hz' (.inl h))]
  · obtain ⟨y, hy⟩ := at_ok (r := r) (i := t.f1) (hz (.inr h)).1 (hz (.inr h)).2
    simp [h, hy, ag_at hA hy (hz (.inr h)).1 (hz' (.inr h))]
  · simp [h]
theorem calls_w {l m : List S45} {fl : Int} {n : Nat} (hR : BlockW l m fl n) {B d : Int} {z z' : Nat} {t t' : S45} (hB : B ≤ 90000) (ht : Fz z t) (ht' : Fz z' t') (hop : ∀ y ∈ t.f1, y.f0.length ≤ 250 ∧ ∀ o ∈ y.f0, Oc l o ∧ okOp o 256 = true) (hop' : ∀ y ∈ t'.f1, ∀ o ∈ y.f0, Oc m o) (hpb : Fbs [] t.f1 t'.f1) (hn : 3 * (1000 - d) + 3 ≤ (n : Int)) :
    ∀ (N : Nat) (s u : Ts) (r r' : List Int) (x : Int), Iv B fl s → Iv B fl u → Rs s u → s.d = d → r.length = z + 1 → r'.length = z' + 1 → Ag r r' → 0 ≤ x → x < (t.f1.length : Int) → s.f < (N : Int) → ∃ v e s' u', Kl n l fl t N x s r = some (tv v e (back s')) ∧ Kl n m fl t' N x u r' = some (tv v e (back u')) ∧ Iv B fl s' ∧ Iv B fl u' ∧ Gs 0 s s' ∧ Rs s' u' := by
  intro N
  induction N with
  | zero => intro s u r r' x hI hJ hS hd hr hr' hA hx0 hx1 hN; have := hI.f0; omega
  | succ N ih =>
    intro s u r r' x hI hJ hS hd hr hr' hA hx0 hx1 hN
    obtain ⟨y, hy⟩ := at_ok (r := t.f1) hx0 hx1
    have hmem := at_mem hy
    obtain ⟨k1, k2⟩ := hop y hmem
    have ex : ((x.toNat : Nat) : Int) = x := by omega
    obtain ⟨y', hy0, hP1, hP2⟩ := hpb.get (at_nat.1 (by rw [ex]; exact hy))
    have hy' : at? t'.f1 x = some y' := by have := at_nat.2 hy0; rwa [ex] at this
    have hmem' := at_mem hy'
    obtain ⟨e, s', u', r1, r2, q1, q2, q3, q4, q5, q6, q7, q8, q9⟩ := hR B s u z z' y y' r r' hI hJ hS hB k1 (fun o ho => ⟨ht.op y hmem o ho, k2 o ho⟩) (fun o ho => ⟨ht'.op y' hmem' o ho, hop' y' hmem' o ho⟩) hP2 hr hr' hA (by omega)
    obtain ⟨hrt, hz⟩ := ht.term y hmem
    obtain ⟨_, hz'⟩ := ht'.term y' hmem'
    rw [hP1] at hz'
    by_cases he : e = 0
    · subst he
      obtain ⟨g1, g2⟩ := q9 rfl
      have hlr : (r1.length : Int) = z + 1 := by omega
      have hlr' : (r2.length : Int) = z' + 1 := by omega
      have hk : y.f1.f0 = 1 ∨ y.f1.f0 = 2 ∨ y.f1.f0 = 3 ∨ y.f1.f0 = 4 := by unfold Rt at hrt; omega
      have hpos : (y.f1.f0 = 2 ∨ y.f1.f0 = 3) → 0 ≤ y.f1.f1 := fun h => by
        unfold Rt at hrt
        rcases hrt with h' | h' | h' | h'
        · omega
        · have := h'.2.2.2.2.2.1; omega
        · have := h'.2.1.1; omega
        · omega
      have hT : Tm y.f1 r1 = Tm y'.f1 r2 := by
        rw [hP1]
        exact term_w g2 (fun h => ⟨hpos h, by have := hz h; omega⟩) (fun h => by have := hz' h; omega) hk
      rw [kl_tm hy q1, kl_tm hy' q2, ← hT]
      have hcase : (∃ x', 0 ≤ x' ∧ x' < (t.f1.length : Int) ∧ Tm y.f1 r1 = some (.inl x')) ∨ (∃ v e, Tm y.f1 r1 = some (.inr (v, e))) := by
        unfold Tm
        unfold Rt at hrt
        rcases hrt with h | h | h | h
        · exact .inl ⟨y.f1.f2, by omega, by omega, by simp [h.1]⟩
        · obtain ⟨w, hw⟩ := at_ok (r := r1) (i := y.f1.f1) (by have := h.2.2.2.2.2.1; omega) (by have := hz (.inl h.1); omega)
          refine .inl ⟨if w = 0 then y.f1.f3 else y.f1.f2, by split <;> omega, by split <;> omega, by simp [h.1, hw]⟩
        · obtain ⟨w, hw⟩ := at_ok (r := r1) (i := y.f1.f1) (by have := h.2.1.1; omega) (by have := hz (.inr h.1); omega)
          exact .inr ⟨w, 0, by simp [h.1, hw]⟩
        · exact .inr ⟨0, y.f1.f2, by simp [h.1]⟩
      rcases hcase with ⟨x', c0, c1, c2⟩ | ⟨v, e, c1⟩
      · rw [c2]
        obtain ⟨v, e, s2, u2, w1, w2, w3, w3', w4, w5⟩ := ih s' u' r1 r2 x' q3 q4 q6 (q5.d.trans hd) q7 q8 g2 c0 c1 (by omega)
        exact ⟨v, e, s2, u2, w1, w2, w3, w3', q5.trans w4, w5⟩
      · rw [c1]
        exact ⟨v, e, s', u', rfl, rfl, q3, q4, q5, q6⟩
    · exact ⟨0, e, s', u', c_err hy q1 he, c_err hy' q2 he, q3, q4, q5, q6⟩
/-- What is known of the functions. -/
def Bw (l : List S45) : Prop := ∀ t ∈ l, Fewp t ∧ ok45 t ∧ okFn t 256 = true
theorem call_w {l m : List S45} {fl : Int} {n : Nat} (hQ : Pw l m) (hK : Bw l) (hR : BlockW l m fl n) : CallW l m fl (n + 1) := by
  intro B s u t t' us hI hJ hS hB ht ht' hF hl hn
  have hd0 := hI.d0
  have hd1 := hI.d1
  have hud := hS.d
  by_cases hd : 1000 ≤ s.d
  · exact ⟨0, 8, s, u, cf_hi hd, cf_hi (by omega), hI, hJ, Gs.refl s (by omega), hS⟩
  · obtain ⟨z, hz⟩ := hQ.wl.fn t ht
    obtain ⟨z', hz'⟩ := hQ.wm.fn t' ht'
    obtain ⟨k1, k2, k3⟩ := hK t ht
    obtain ⟨g1, g2, g3, g4⟩ := fn_fw k1 k2 k3 hF
    have k4 : ∀ y ∈ t.f1, ∀ o ∈ y.f0, okOp o 256 = true := by
      unfold okFn at k3
      simp only [Bool.and_eq_true, decide_eq_true_eq, List.all_eq_true] at k3
      exact fun y hy o ho => k3.2 y hy o ho
    have hz1 := hz.rf.l1
    have hI1 : Iv B fl { s with d := s.d + 1 } := { hI with d0 := by show 0 ≤ s.d + 1; omega, d1 := by show s.d + 1 ≤ 1000; omega }
    have hJ1 : Iv B fl { u with d := u.d + 1 } := { hJ with d0 := by show 0 ≤ u.d + 1; omega, d1 := by show u.d + 1 ≤ 1000; omega }
    have hS1 : Rs { s with d := s.d + 1 } { u with d := u.d + 1 } := { hS with d := by show u.d + 1 = s.d + 1; omega }
    obtain ⟨v, e, s', u', q1, q2, q3, q3', q4, q5⟩ := calls_w hR (d := s.d + 1) hB hz hz' (fun y hy => ⟨(hQ.wl.op t ht y hy).1, fun o ho => ⟨(hQ.wl.op t ht y hy).2 o ho, k4 y hy o ho⟩⟩) (fun y hy o ho => (hQ.wm.op t' ht' y hy).2 o ho) g4 (by omega) 100000 { s with d := s.d + 1 } { u with d := u.d + 1 } (rg z us) (rg z' us) 0 hI1 hJ1 hS1 rfl (rg_len z us) (rg_len z' us) (ag_rg z z' us) (by omega) (by omega) (by have := hI.fB; show s.f < _; omega)
    have hd2 : s'.d = s.d + 1 := q4.d
    have hd3 : IntKind.i64.wrap (s'.d - 1) = s.d := by rw [hd2, w64 (by omega) (by omega)]; omega
    have hd4 : IntKind.i64.wrap (u'.d - 1) = s.d := by rw [q5.d]; exact hd3
    exact ⟨v, e, back s', back u', cf_lo hd0 hd hz q1, cf_lo (by omega) (by omega) hz' q2, { q3 with d0 := by show 0 ≤ IntKind.i64.wrap (s'.d - 1); omega, d1 := by show IntKind.i64.wrap (s'.d - 1) ≤ 1000; omega }, { q3' with d0 := by show 0 ≤ IntKind.i64.wrap (u'.d - 1); omega, d1 := by show IntKind.i64.wrap (u'.d - 1) ≤ 1000; omega }, { q4 with d := hd3 }, q5.back⟩
theorem simul_w {l m : List S45} {fl : Int} (hQ : Pw l m) (hK : Bw l) : ∀ n, CallW l m fl n ∧ BlockW l m fl n ∧ ValueW l m fl n := by
  intro n
  induction n with
  | zero => exact ⟨fun B s u t t' us hI _ _ _ _ _ _ _ hn => by have := hI.d1; omega, fun B s u z z' b b' r r' hI _ _ _ _ _ _ _ _ _ _ hn => by have := hI.d1; omega, fun B s u z z' o q r r' kn kz hI _ _ _ _ _ _ _ _ _ _ _ _ _ _ _ hn => by have := hI.d1; omega⟩
  | succ n ih =>
    have t1 := total (fl := fl) hQ.wl hQ.ll n
    have t2 := total (fl := fl) hQ.wm hQ.lm n
    exact ⟨call_w hQ hK ih.2.1, block_w ih.2.2, value_w hQ t1.1 t2.1 ih.1⟩
theorem forwardRuns_law (a0 : List S45) (a1 : Int) (a2 : List Int) (a3 : Int) (h0 : a0.length * 32 ≤ 140737488351232 ∧ ∀ y ∈ a0, ok45 y) (h1 : (Lit.int .i64 a1).wf = true) (h2 : a2.length * 8 ≤ 140737488351232 ∧ ∀ y ∈ a2, (Lit.int .i64 y).wf = true) (h3 : (Lit.int .i64 a3).wf = true) : swagelaw22_ForwardRuns.f a0 a1 a2 a3 = some true := by
  obtain ⟨b, b1, b2⟩ := few15 h0
  unfold swagelaw22_ForwardRuns.f
  rw [small22, Option.bind_some, b1, Option.bind_some]
  simp only [jn]
  cases b with
  | false => rw [if_pos (by simp), if_pos trivial]
  | true =>
    obtain ⟨h8, hf⟩ := b2 rfl
    rw [if_neg (by simp)]
    by_cases c1 : a1 < 1
    · rw [if_pos c1, if_pos trivial]
    rw [if_neg c1]
    by_cases c2 : 4096 < a1
    · rw [if_pos c2, if_pos trivial]
    rw [if_neg c2]
    by_cases c3 : 60 < (a2.length : Int)
    · rw [if_pos c3, if_pos trivial]
    rw [if_neg c3]
    by_cases c4 : a3 < 0
    · rw [if_pos c4, if_pos trivial]
    rw [if_neg c4]
    by_cases c5 : 2000 < a3
    · rw [if_pos (by simpa using c5)]
    rw [if_neg (by simpa using c5)]
    obtain ⟨m, m1, m2⟩ := fvs_t h8 hf h0.2
    rw [m1, Option.bind_some]
    have hml := m2.len
    have hfm : ∀ t ∈ m, Fewp t := fun t ht => by
      obtain ⟨x, x1, x2⟩ := m2.mem t ht
      obtain ⟨q, q1, _, _, q4⟩ := func_fw (hf x x1) (h0.2 x x1) []
      rw [x2] at q1
      obtain rfl := Option.some.inj q1
      exact q4
    obtain ⟨q, hq⟩ := run_z (m := m) (by omega) hfm (a1 := a1) (a2 := a2) (a3 := a3) (by omega) (by omega) (by omega) (by omega)
    obtain ⟨bp, p1, p2⟩ := prog_f h8 hf
    cases bp with
    | false =>
      have hr : trace_Run.f a0 a1 a2 a3 = some (none28, 1) := by
        unfold trace_Run.f
        simp only [jn]
        rw [if_neg (by omega), if_neg (by simp; omega), if_pos (by omega), p1]; rfl
      rw [hr, Option.bind_some, hq, Option.bind_some]
      rfl
    | true =>
      obtain ⟨hp, t, ht, ht0⟩ := p2 rfl
      have hpm := prog_fv h8 hf h0.2 hp m2
      have hwl := wp_of h8 hf hp
      have hwm := wp_of (by omega) hfm hpm
      have hk : ∀ t ∈ a0, okFn t a0.length = true := fun t ht => ((Bool.and_eq_true _ _).mp (List.all_eq_true.1 hp t ht)).1
      have hK : Bw a0 := fun t ht => by
        refine ⟨hf t ht, h0.2 t ht, ?_⟩
        have := hk t ht
        unfold okFn at this ⊢
        simp only [Bool.and_eq_true, decide_eq_true_eq, List.all_eq_true] at this ⊢
        obtain ⟨⟨⟨r1, r2⟩, r3⟩, r4⟩ := this
        exact ⟨⟨⟨r1, r2⟩, r3⟩, fun b hb o ho => okOp_to (r4 b hb o ho) (fun h7 => by have := (okOp_call (r4 b hb o ho) h7).2; omega)⟩
      have hQ : Pw a0 m := ⟨by omega, by omega, hwl, hwm, fun i g hg => by
        have hi : 0 ≤ i := by
          unfold at? at hg
          split at hg
          · assumption
          · cases hg
        have e : ((i.toNat : Nat) : Int) = i := by omega
        rw [← e] at hg ⊢
        obtain ⟨y, y1, y2⟩ := m2.get (at_nat.1 hg)
        exact ⟨y, at_nat.2 y1, y2⟩⟩
      obtain ⟨t', t1, t2⟩ := hQ.fn 0 t ht
      obtain ⟨k1, k2, k3⟩ := hK t (at_mem ht)
      obtain ⟨_, _, g1, _⟩ := fn_fw k1 k2 k3 t2
      obtain ⟨v, e, s, u, e1, e2, e3, e3', e4, e5⟩ := (simul_w (fl := a1) hQ hK 100000).1 a3 (ts0 a1 a2 a3) (ts0 a1 a2 a3) t t' [] (iv0 (by omega) (by omega) (by omega)) (iv0 (by omega) (by omega) (by omega)) ⟨rfl, rfl, rfl, rfl, rfl, rfl, rfl, rfl, Int.le_refl _⟩ (by omega) (at_mem ht) (at_mem t1) t2 (by simp [ht0]) (by show 3 * (1000 - (0 : Int)) + 1 ≤ _; omega)
      have i1 := e3.pot; have i2 := e3.ld0; have i3 := e3.st0; have i4 := e3.f0
      have hlen : s.o.length ≤ 140737488355328 := by omega
      rw [run_t h8 hf hp ht ht0 (by omega) (by omega) e1, run_t (by omega) hfm hpm t1 (by rw [g1]; exact ht0) (by omega) (by omega) e2]
      have hsame : trace_Same.f ⟨s.o, e, s.ld, s.st, s.c⟩ ⟨u.o, e, u.ld, u.st, u.c⟩ = some true := by rw [same_s _ _ hlen]; simp [e5.o]
      have z1 := e5.ld
      have z2 := e5.st
      have z3 := e5.c
      simp only [Option.bind_some, hsame]
      simp [z1, z2, z3]
end Go.Proofs.Ytfmocegnpmomnaa.Sy
